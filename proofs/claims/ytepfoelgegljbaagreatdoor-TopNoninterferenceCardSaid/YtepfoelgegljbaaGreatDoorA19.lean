/- Part A19. -/
import Derived.Test.YtepfoelgegljbaaGreatDoorA18
namespace Go.Proofs.YtepfoelgegljbaaGreatDoor
set_option maxRecDepth 100000
open Go.RowKit
set_option linter.unusedVariables false
set_option maxHeartbeats 4000000 in
theorem op_kind (s:Scr) (i:Nat) (o:Opr) (ho:s.ops[i]? = some o) (l:List Opr) (n:Nat) (hn:n ≤ 1000) (hl:l.length = n) (A:Option Addr) (c:Nat) (w:World) (hs:s.In w) (hN:Named w) (hR:Ruled w) (h:Sl w 12 n A (oprs l)) (h1:o.k ≠ 1) (h2:o.k ≠ 2) (h3:o.k ≠ 3):Calls Tryz.prog 57 #[s.v,.int .i64 i,.slice A n c] w fun e w' => e = .returned (.int .i64 9) ∧ Bel w w':=by
 have hi:i < s.pn:=by have:=hs.lops; rw [← this]; exact (List.getElem?_eq_some_iff.1 ho).1
 have HR:=hd_ hR
 have HN:=hd_ hN
 have HL:=hd_ h
 have hpn:=hs.pn
 have hin:=hs.inn
 obtain ⟨g,off,eA,lg,hLD⟩:=hs.ops.opld ho hi
 have hMx:=hd_ (fun w => calls_bs (smax_call s.bits w))
 have ka1:(o.k == 1) = false:=by simp; omega
 have kb1:(o.k != 1) = true:=by rw [bne,ka1]; rfl
 have ka2:(o.k == 2) = false:=by simp; omega
 have kb2:(o.k != 2) = true:=by rw [bne,ka2]; rfl
 have ka3:(o.k == 3) = false:=by simp; omega
 have kb3:(o.k != 3) = true:=by rw [bne,ka3]; rfl
 unfold Scr.v
 rw [eA]
 generalize maxI s.bits = MX at *
 generalize maxB s.bits = MB at *
 have HLD:=hd_ hLD
 clear hLD ho eA hs h hR hN hl h1 h2 h3
 go_enter Tryz.func57,Tryz.ntmps57
 go_upto_region 1 with fail
 refine at_world (fun V => Bel w V ∧ V.heap[w.heap.size]? = some (oSp s (some ⟨g,off,none⟩) s.pn s.pc)) ⟨(Bel.refl w).al _,at_new (by first | rfl | simp)⟩ ?_
 rintro V ⟨hX,eS⟩
 have Ss:=lt_of_heap eS
 have S_0:=cq0 eS rfl
 have S_8:=cq8 eS rfl
 have S_9:=cq9 eS rfl
 have fS:=frozA eS
 have hld:=HLD.out _ hX
 go_upto_region 4 with (first | ((with_reducible show wpList _ _ _ (⟨some 23,_,_,_,_,_⟩ :: _) _ _); refine wpList_ld rfl rfl rfl (hld) ?_) | fail)
 refine at_world (fun Y => Bel w Y ∧ Y.heap[w.heap.size]? = some (oSp s (some ⟨g,off,none⟩) s.pn s.pc) ∧ Y.heap[V.heap.size]? = some (oOp o)) ⟨hX.al _,at_old eS,at_new (by first | rfl | simp)⟩ ?_
 clear hX eS hld S_0 S_8 S_9 Ss fS
 rintro Y ⟨hX,eS,eO⟩
 have Ss:=lt_of_heap eS
 have Os:=lt_of_heap eO
 have S_0:=cq0 eS rfl
 have S_8:=cq8 eS rfl
 have S_9:=cq9 eS rfl
 have O_0:=cq0 eO rfl
 have O_1:=cq1 eO rfl
 have O_2:=cq2 eO rfl
 have O_3:=cq3 eO rfl
 have O_4:=cq4 eO rfl
 have O_5:=cq5 eO rfl
 have O_6:=cq6 eO rfl
 have O_7:=cq7 eO rfl
 have O_8:=cq8 eO rfl
 have O_9:=cq9 eO rfl
 have O_10:=cq10 eO rfl
 have O_11:=cq11 eO rfl
 have fS:=frozA eS
 have fO:=frozA eO
 go_wp2_with (first | (go_at_call 29; (with_reducible refine (hMx.out _).mono ?_); rintro e w1 ⟨rfl,hb⟩; replace hX:=hX.trans hb; replace eS:=hb.heap eS; replace eO:=hb.heap eO; clear Ss S_0 S_8 S_9 fS Os O_0 O_1 O_2 O_3 O_4 O_5 O_6 O_7 O_8 O_9 O_10 O_11 fO; have Ss:=lt_of_heap eS; have Os:=lt_of_heap eO; have S_0:=cq0 eS rfl; have S_8:=cq8 eS rfl; have S_9:=cq9 eS rfl; have O_0:=cq0 eO rfl; have O_1:=cq1 eO rfl; have O_2:=cq2 eO rfl; have O_3:=cq3 eO rfl; have O_4:=cq4 eO rfl; have O_5:=cq5 eO rfl; have O_6:=cq6 eO rfl; have O_7:=cq7 eO rfl; have O_8:=cq8 eO rfl; have O_9:=cq9 eO rfl; have O_10:=cq10 eO rfl; have O_11:=cq11 eO rfl; have fS:=frozA eS; have fO:=frozA eO; clear hb) | ((with_reducible show wpList _ _ _ (⟨some 45,_,_,_,_,_⟩ :: _) _ _); refine wpList_ld rfl rfl rfl (opr_ld eO) ?_) | fail)
 go_returns
 exact ⟨rfl,hX⟩
theorem tlVOpc0 {p:Prop} (h:p:=by
  unfold Scr.v
  rw [eA]
  generalize maxI s.bits = MX at *
  generalize maxB s.bits = MB at *
  have HLD:=hd_ hLD
  clear hLD ho eA hs h hR hN hl  hk123 hk
  go_enter Tryz.func57,Tryz.ntmps57
  go_upto_region 1 with fail
  refine at_world (fun V => Bel w V ∧ V.heap[w.heap.size]? = some (oSp s (some ⟨g,off,none⟩) s.pn s.pc)) ⟨(Bel.refl w).al _,at_new (by first | rfl | simp)⟩ ?_
  rintro V ⟨hX,eS⟩
  have Ss:=lt_of_heap eS
  have S_0:=cq0 eS rfl
  have S_8:=cq8 eS rfl
  have S_9:=cq9 eS rfl
  have fS:=frozA eS
  have hld:=HLD.out _ hX
  go_upto_region 4 with (first | ((with_reducible show wpList _ _ _ (⟨some 23,_,_,_,_,_⟩ :: _) _ _); refine wpList_ld rfl rfl rfl (hld) ?_) | fail)
  refine at_world (fun Y => Bel w Y ∧ Y.heap[w.heap.size]? = some (oSp s (some ⟨g,off,none⟩) s.pn s.pc) ∧ Y.heap[V.heap.size]? = some (oOp o)) ⟨hX.al _,at_old eS,at_new (by first | rfl | simp)⟩ ?_
  clear hX eS hld S_0 S_8 S_9 Ss fS
  rintro Y ⟨hX,eS,eO⟩
  have Ss:=lt_of_heap eS
  have Os:=lt_of_heap eO
  have S_0:=cq0 eS rfl
  have S_8:=cq8 eS rfl
  have S_9:=cq9 eS rfl
  have O_0:=cq0 eO rfl
  have O_1:=cq1 eO rfl
  have O_2:=cq2 eO rfl
  have O_3:=cq3 eO rfl
  have O_4:=cq4 eO rfl
  have O_5:=cq5 eO rfl
  have O_6:=cq6 eO rfl
  have O_7:=cq7 eO rfl
  have O_8:=cq8 eO rfl
  have O_9:=cq9 eO rfl
  have O_10:=cq10 eO rfl
  have O_11:=cq11 eO rfl
  have fS:=frozA eS
  have fO:=frozA eO
  go_wp2_with (first | ((first | (go_at_call 29; (with_reducible refine (hMx.out _).mono ?_)) | (go_at_call 69; (with_reducible refine (hFl.out _).mono ?_))); rintro e w1 ⟨rfl,hb⟩; replace hX:=hX.trans hb; replace eS:=hb.heap eS; replace eO:=hb.heap eO; clear Ss S_0 S_8 S_9 fS Os O_0 O_1 O_2 O_3 O_4 O_5 O_6 O_7 O_8 O_9 O_10 O_11 fO; have Ss:=lt_of_heap eS; have Os:=lt_of_heap eO; have S_0:=cq0 eS rfl; have S_8:=cq8 eS rfl; have S_9:=cq9 eS rfl; have O_0:=cq0 eO rfl; have O_1:=cq1 eO rfl; have O_2:=cq2 eO rfl; have O_3:=cq3 eO rfl; have O_4:=cq4 eO rfl; have O_5:=cq5 eO rfl; have O_6:=cq6 eO rfl; have O_7:=cq7 eO rfl; have O_8:=cq8 eO rfl; have O_9:=cq9 eO rfl; have O_10:=cq10 eO rfl; have O_11:=cq11 eO rfl; have fS:=frozA eS; have fO:=frozA eO; clear hb) | ((with_reducible show wpList _ _ _ (⟨some 45,_,_,_,_,_⟩ :: _) _ _); refine wpList_ld rfl rfl rfl (opr_ld eO) ?_) | fail)
  go_returns
  exact ⟨rfl,hX⟩):p:=h
theorem tlVOpc6 {p:Prop} (h:p:=by
  have hi:i < s.pn:=by have:=hs.lops; rw [← this]; exact (List.getElem?_eq_some_iff.1 ho).1
  have HR:=hd_ hR
  have HN:=hd_ hN
  have HL:=hd_ h
  have hpn:=hs.pn
  have hin:=hs.inn
  obtain ⟨g,off,eA,lg,hLD⟩:=hs.ops.opld ho hi
  have hk123:o.k = 1 ∨ o.k = 2 ∨ o.k = 3:=by omega
  have hMx:=hd_ (fun w => calls_bs (smax_call s.bits w))
  have hFl:=hd_ (fields_call o hk123)
  rw [e1] at hFl
  have ka1:(o.k == 1) = true:=by simp; omega
  have kb1:(o.k != 1) = false:=by rw [bne,ka1]; rfl
  have ka2:(o.k == 2) = false:=by simp; omega
  have kb2:(o.k != 2) = true:=by rw [bne,ka2]; rfl
  have ka3:(o.k == 3) = false:=by simp; omega
  have kb3:(o.k != 3) = true:=by rw [bne,ka3]; rfl
  exact tlVOpc0):p:=h
set_option maxHeartbeats 4000000 in
theorem op_fld1 (s:Scr) (i:Nat) (o:Opr) (ho:s.ops[i]? = some o) (l:List Opr) (n:Nat) (hn:n ≤ 1000) (hl:l.length = n) (A:Option Addr) (c:Nat) (w:World) (hs:s.In w) (hN:Named w) (hR:Ruled w) (h:Sl w 12 n A (oprs l)) (hk:o.k = 1) (e1:fieldsB o = false):Calls Tryz.prog 57 #[s.v,.int .i64 i,.slice A n c] w fun e w' => e = .returned (.int .i64 10) ∧ Bel w w':=by
 exact tlVOpc6
theorem tlVOpc9 {p:Prop} (h:p:=by
  have hi:i < s.pn:=by have:=hs.lops; rw [← this]; exact (List.getElem?_eq_some_iff.1 ho).1
  have HR:=hd_ hR
  have HN:=hd_ hN
  have HL:=hd_ h
  have hpn:=hs.pn
  have hin:=hs.inn
  obtain ⟨g,off,eA,lg,hLD⟩:=hs.ops.opld ho hi
  have hk123:o.k = 1 ∨ o.k = 2 ∨ o.k = 3:=by omega
  have hMx:=hd_ (fun w => calls_bs (smax_call s.bits w))
  have hFl:=hd_ (fields_call o hk123)
  rw [e1] at hFl
  have ka1:(o.k == 1) = false:=by simp; omega
  have kb1:(o.k != 1) = true:=by rw [bne,ka1]; rfl
  have ka2:(o.k == 2) = true:=by simp; omega
  have kb2:(o.k != 2) = false:=by rw [bne,ka2]; rfl
  have ka3:(o.k == 3) = false:=by simp; omega
  have kb3:(o.k != 3) = true:=by rw [bne,ka3]; rfl
  exact tlVOpc0):p:=h
set_option maxHeartbeats 4000000 in
theorem op_fld2 (s:Scr) (i:Nat) (o:Opr) (ho:s.ops[i]? = some o) (l:List Opr) (n:Nat) (hn:n ≤ 1000) (hl:l.length = n) (A:Option Addr) (c:Nat) (w:World) (hs:s.In w) (hN:Named w) (hR:Ruled w) (h:Sl w 12 n A (oprs l)) (hk:o.k = 2) (e1:fieldsB o = false):Calls Tryz.prog 57 #[s.v,.int .i64 i,.slice A n c] w fun e w' => e = .returned (.int .i64 10) ∧ Bel w w':=by
 exact tlVOpc9
theorem tlVOpc12 {p:Prop} (h:p:=by
  have ka1:(o.k == 1) = false:=by simp; omega
  have kb1:(o.k != 1) = true:=by rw [bne,ka1]; rfl
  have ka2:(o.k == 2) = false:=by simp; omega
  have kb2:(o.k != 2) = true:=by rw [bne,ka2]; rfl
  have ka3:(o.k == 3) = true:=by simp; omega
  have kb3:(o.k != 3) = false:=by rw [bne,ka3]; rfl
  exact tlVOpc0):p:=h
set_option maxHeartbeats 4000000 in
theorem op_fld3 (s:Scr) (i:Nat) (o:Opr) (ho:s.ops[i]? = some o) (l:List Opr) (n:Nat) (hn:n ≤ 1000) (hl:l.length = n) (A:Option Addr) (c:Nat) (w:World) (hs:s.In w) (hN:Named w) (hR:Ruled w) (h:Sl w 12 n A (oprs l)) (hk:o.k = 3) (e1:fieldsB o = false):Calls Tryz.prog 57 #[s.v,.int .i64 i,.slice A n c] w fun e w' => e = .returned (.int .i64 10) ∧ Bel w w':=by
 have hi:i < s.pn:=by have:=hs.lops; rw [← this]; exact (List.getElem?_eq_some_iff.1 ho).1
 have HR:=hd_ hR
 have HN:=hd_ hN
 have HL:=hd_ h
 have hpn:=hs.pn
 have hin:=hs.inn
 obtain ⟨g,off,eA,lg,hLD⟩:=hs.ops.opld ho hi
 have hk123:o.k = 1 ∨ o.k = 2 ∨ o.k = 3:=by omega
 have hMx:=hd_ (fun w => calls_bs (smax_call s.bits w))
 have hFl:=hd_ (fields_call o hk123)
 rw [e1] at hFl
 exact tlVOpc12
set_option maxHeartbeats 4000000 in
theorem op_pop0 (s:Scr) (i:Nat) (o:Opr) (ho:s.ops[i]? = some o) (l:List Opr) (n:Nat) (hn:n ≤ 1000) (hl:l.length = n) (A:Option Addr) (c:Nat) (w:World) (hs:s.In w) (hN:Named w) (hR:Ruled w) (h:Sl w 12 n A (oprs l)) (hk:o.k = 3) (e1:fieldsB o = true) (hz:n = 0):Calls Tryz.prog 57 #[s.v,.int .i64 i,.slice A n c] w fun e w' => e = .returned (.int .i64 18) ∧ Bel w w':=by
 have hi:i < s.pn:=by have:=hs.lops; rw [← this]; exact (List.getElem?_eq_some_iff.1 ho).1
 have HR:=hd_ hR
 have HN:=hd_ hN
 have HL:=hd_ h
 have hpn:=hs.pn
 have hin:=hs.inn
 obtain ⟨g,off,eA,lg,hLD⟩:=hs.ops.opld ho hi
 have hk123:o.k = 1 ∨ o.k = 2 ∨ o.k = 3:=by omega
 have hMx:=hd_ (fun w => calls_bs (smax_call s.bits w))
 have hFl:=hd_ (fields_call o hk123)
 rw [e1] at hFl
 subst hz
 exact tlVOpc12
set_option maxHeartbeats 4000000 in
theorem op_pop1 (s:Scr) (i:Nat) (o:Opr) (ho:s.ops[i]? = some o) (l:List Opr) (n:Nat) (hn:n ≤ 1000) (hl:l.length = n) (A:Option Addr) (c:Nat) (w:World) (hs:s.In w) (hN:Named w) (hR:Ruled w) (h:Sl w 12 n A (oprs l)) (hk:o.k = 3) (e1:fieldsB o = true) (hz:0 < n):Calls Tryz.prog 57 #[s.v,.int .i64 i,.slice A n c] w fun e w' => e = .returned (.int .i64 0) ∧ Bel w w':=by
 have hi:i < s.pn:=by have:=hs.lops; rw [← this]; exact (List.getElem?_eq_some_iff.1 ho).1
 have HR:=hd_ hR
 have HN:=hd_ hN
 have HL:=hd_ h
 have hpn:=hs.pn
 have hin:=hs.inn
 obtain ⟨g,off,eA,lg,hLD⟩:=hs.ops.opld ho hi
 have hk123:o.k = 1 ∨ o.k = 2 ∨ o.k = 3:=by omega
 have hMx:=hd_ (fun w => calls_bs (smax_call s.bits w))
 have hFl:=hd_ (fields_call o hk123)
 rw [e1] at hFl
 have nz:((n:Int) == 0) = false:=beq_eq_false_iff_ne.2 (by omega)
 exact tlVOpc12
set_option maxHeartbeats 4000000 in
theorem op_im0 (s:Scr) (i:Nat) (o:Opr) (ho:s.ops[i]? = some o) (l:List Opr) (n:Nat) (hn:n ≤ 1000) (hl:l.length = n) (A:Option Addr) (c:Nat) (w:World) (hs:s.In w) (hN:Named w) (hR:Ruled w) (h:Sl w 12 n A (oprs l)) (hk:o.k = 1) (e1:fieldsB o = true) (i0:o.im < 0):Calls Tryz.prog 57 #[s.v,.int .i64 i,.slice A n c] w fun e w' => e = .returned (.int .i64 11) ∧ Bel w w':=by
 exact tlVOpc6
set_option maxHeartbeats 4000000 in
theorem op_im1 (s:Scr) (i:Nat) (o:Opr) (ho:s.ops[i]? = some o) (l:List Opr) (n:Nat) (hn:n ≤ 1000) (hl:l.length = n) (A:Option Addr) (c:Nat) (w:World) (hs:s.In w) (hN:Named w) (hR:Ruled w) (h:Sl w 12 n A (oprs l)) (hk:o.k = 1) (e1:fieldsB o = true) (i0:0 ≤ o.im) (i1:s.inn ≤ o.im):Calls Tryz.prog 57 #[s.v,.int .i64 i,.slice A n c] w fun e w' => e = .returned (.int .i64 11) ∧ Bel w w':=by
 exact tlVOpc6
set_option maxHeartbeats 4000000 in
theorem op_ms0_1 (s:Scr) (i:Nat) (o:Opr) (ho:s.ops[i]? = some o) (l:List Opr) (n:Nat) (hn:n ≤ 1000) (hl:l.length = n) (A:Option Addr) (c:Nat) (w:World) (hs:s.In w) (hN:Named w) (hR:Ruled w) (h:Sl w 12 n A (oprs l)) (hk:o.k = 1) (e1:fieldsB o = true) (i0:0 ≤ o.im) (i1:o.im < s.inn) (m0:o.ms < 0):Calls Tryz.prog 57 #[s.v,.int .i64 i,.slice A n c] w fun e w' => e = .returned (.int .i64 11) ∧ Bel w w':=by
 exact tlVOpc6
set_option maxHeartbeats 4000000 in
theorem op_ms1_1 (s:Scr) (i:Nat) (o:Opr) (ho:s.ops[i]? = some o) (l:List Opr) (n:Nat) (hn:n ≤ 1000) (hl:l.length = n) (A:Option Addr) (c:Nat) (w:World) (hs:s.In w) (hN:Named w) (hR:Ruled w) (h:Sl w 12 n A (oprs l)) (hk:o.k = 1) (e1:fieldsB o = true) (i0:0 ≤ o.im) (i1:o.im < s.inn) (m0:0 ≤ o.ms) (m1:s.inn < o.ms):Calls Tryz.prog 57 #[s.v,.int .i64 i,.slice A n c] w fun e w' => e = .returned (.int .i64 11) ∧ Bel w w':=by
 exact tlVOpc6
theorem tlVOpc3 {p:Prop} (h:p:=by
  have ka3:(o.k == 3) = false:=by simp; omega
  have kb3:(o.k != 3) = true:=by rw [bne,ka3]; rfl
  unfold Scr.v
  rw [eA]
  generalize maxI s.bits = MX at *
  generalize maxB s.bits = MB at *
  have HLD:=hd_ hLD
  clear hLD ho eA hs h hR hN hl  hk123 hk
  go_enter Tryz.func57,Tryz.ntmps57
  go_upto_region 1 with fail
  refine at_world (fun V => Bel w V ∧ V.heap[w.heap.size]? = some (oSp s (some ⟨g,off,none⟩) s.pn s.pc)) ⟨(Bel.refl w).al _,at_new (by first | rfl | simp)⟩ ?_
  rintro V ⟨hX,eS⟩
  have Ss:=lt_of_heap eS
  have S_0:=cq0 eS rfl
  have S_8:=cq8 eS rfl
  have S_9:=cq9 eS rfl
  have fS:=frozA eS
  have hld:=HLD.out _ hX
  go_upto_region 4 with (first | ((with_reducible show wpList _ _ _ (⟨some 23,_,_,_,_,_⟩ :: _) _ _); refine wpList_ld rfl rfl rfl (hld) ?_) | fail)
  refine at_world (fun Y => Bel w Y ∧ Y.heap[w.heap.size]? = some (oSp s (some ⟨g,off,none⟩) s.pn s.pc) ∧ Y.heap[V.heap.size]? = some (oOp o)) ⟨hX.al _,at_old eS,at_new (by first | rfl | simp)⟩ ?_
  clear hX eS hld S_0 S_8 S_9 Ss fS
  rintro Y ⟨hX,eS,eO⟩
  have Ss:=lt_of_heap eS
  have Os:=lt_of_heap eO
  have S_0:=cq0 eS rfl
  have S_8:=cq8 eS rfl
  have S_9:=cq9 eS rfl
  have O_0:=cq0 eO rfl
  have O_1:=cq1 eO rfl
  have O_2:=cq2 eO rfl
  have O_3:=cq3 eO rfl
  have O_4:=cq4 eO rfl
  have O_5:=cq5 eO rfl
  have O_6:=cq6 eO rfl
  have O_7:=cq7 eO rfl
  have O_8:=cq8 eO rfl
  have O_9:=cq9 eO rfl
  have O_10:=cq10 eO rfl
  have O_11:=cq11 eO rfl
  have fS:=frozA eS
  have fO:=frozA eO
  go_wp2_with (first | ((first | (go_at_call 29; (with_reducible refine (hMx.out _).mono ?_)) | (go_at_call 69; (with_reducible refine (hFl.out _).mono ?_))); rintro e w1 ⟨rfl,hb⟩; replace hX:=hX.trans hb; replace eS:=hb.heap eS; replace eO:=hb.heap eO; clear Ss S_0 S_8 S_9 fS Os O_0 O_1 O_2 O_3 O_4 O_5 O_6 O_7 O_8 O_9 O_10 O_11 fO; have Ss:=lt_of_heap eS; have Os:=lt_of_heap eO; have S_0:=cq0 eS rfl; have S_8:=cq8 eS rfl; have S_9:=cq9 eS rfl; have O_0:=cq0 eO rfl; have O_1:=cq1 eO rfl; have O_2:=cq2 eO rfl; have O_3:=cq3 eO rfl; have O_4:=cq4 eO rfl; have O_5:=cq5 eO rfl; have O_6:=cq6 eO rfl; have O_7:=cq7 eO rfl; have O_8:=cq8 eO rfl; have O_9:=cq9 eO rfl; have O_10:=cq10 eO rfl; have O_11:=cq11 eO rfl; have fS:=frozA eS; have fO:=frozA eO; clear hb) | (go_at_call 50; (with_reducible refine (hNr.out _ _ _ ?_).mono ?_); exact sl4 (at_new (by first | rfl | simp)); rintro e w1 ⟨rfl,hb⟩; replace hb:=((Bel.refl _).al _).trans hb; replace hX:=hX.trans hb; replace eS:=hb.heap eS; replace eO:=hb.heap eO; clear Ss S_0 S_8 S_9 fS Os O_0 O_1 O_2 O_3 O_4 O_5 O_6 O_7 O_8 O_9 O_10 O_11 fO; have Ss:=lt_of_heap eS; have Os:=lt_of_heap eO; have S_0:=cq0 eS rfl; have S_8:=cq8 eS rfl; have S_9:=cq9 eS rfl; have O_0:=cq0 eO rfl; have O_1:=cq1 eO rfl; have O_2:=cq2 eO rfl; have O_3:=cq3 eO rfl; have O_4:=cq4 eO rfl; have O_5:=cq5 eO rfl; have O_6:=cq6 eO rfl; have O_7:=cq7 eO rfl; have O_8:=cq8 eO rfl; have O_9:=cq9 eO rfl; have O_10:=cq10 eO rfl; have O_11:=cq11 eO rfl; have fS:=frozA eS; have fO:=frozA eO; clear hb) | ((with_reducible show wpList _ _ _ (⟨some 45,_,_,_,_,_⟩ :: _) _ _); refine wpList_ld rfl rfl rfl (opr_ld eO) ?_) | fail)
  go_returns
  exact ⟨rfl,hX⟩):p:=h
theorem tlVOpc10 {p:Prop} (h:p:=by
  have hi:i < s.pn:=by have:=hs.lops; rw [← this]; exact (List.getElem?_eq_some_iff.1 ho).1
  have HR:=hd_ hR
  have HN:=hd_ hN
  have HL:=hd_ h
  have hpn:=hs.pn
  have hin:=hs.inn
  obtain ⟨g,off,eA,lg,hLD⟩:=hs.ops.opld ho hi
  have hk123:o.k = 1 ∨ o.k = 2 ∨ o.k = 3:=by omega
  have hMx:=hd_ (fun w => calls_bs (smax_call s.bits w))
  have hFl:=hd_ (fields_call o hk123)
  have hNr:=hd_ (fun (W:World) (g c:Nat) (hh:Sl W 1 4 (some ⟨g,0,none⟩) _) => calls_bs (near_call [o.x,o.y,o.mx,o.my] 4 (by decide) rfl _ c W hh))
  rw [e1] at hFl
  rw [e2] at hNr
  have ka1:(o.k == 1) = true:=by simp; omega
  have kb1:(o.k != 1) = false:=by rw [bne,ka1]; rfl
  have ka2:(o.k == 2) = false:=by simp; omega
  have kb2:(o.k != 2) = true:=by rw [bne,ka2]; rfl
  exact tlVOpc3):p:=h
set_option maxHeartbeats 4000000 in
theorem op_near_1 (s:Scr) (i:Nat) (o:Opr) (ho:s.ops[i]? = some o) (l:List Opr) (n:Nat) (hn:n ≤ 1000) (hl:l.length = n) (A:Option Addr) (c:Nat) (w:World) (hs:s.In w) (hN:Named w) (hR:Ruled w) (h:Sl w 12 n A (oprs l)) (hk:o.k = 1) (e1:fieldsB o = true) (i0:0 ≤ o.im) (i1:o.im < s.inn) (m0:0 ≤ o.ms) (m1:o.ms ≤ s.inn) (e2:nearB [o.x,o.y,o.mx,o.my] = false):Calls Tryz.prog 57 #[s.v,.int .i64 i,.slice A n c] w fun e w' => e = .returned (.int .i64 12) ∧ Bel w w':=by
 exact tlVOpc10
set_option maxHeartbeats 4000000 in
theorem op_oc_1 (s:Scr) (i:Nat) (o:Opr) (ho:s.ops[i]? = some o) (l:List Opr) (n:Nat) (hn:n ≤ 1000) (hl:l.length = n) (A:Option Addr) (c:Nat) (w:World) (hs:s.In w) (hN:Named w) (hR:Ruled w) (h:Sl w 12 n A (oprs l)) (hk:o.k = 1) (e1:fieldsB o = true) (i0:0 ≤ o.im) (i1:o.im < s.inn) (m0:0 ≤ o.ms) (m1:o.ms ≤ s.inn) (e2:nearB [o.x,o.y,o.mx,o.my] = true) (hoc:maxI s.bits < o.oc):Calls Tryz.prog 57 #[s.v,.int .i64 i,.slice A n c] w fun e w' => e = .returned (.int .i64 13) ∧ Bel w w':=by
 exact tlVOpc10
theorem tlVOpc5 {p:Prop} (h:p:=by
  have ka3:(o.k == 3) = false:=by simp; omega
  have kb3:(o.k != 3) = true:=by rw [bne,ka3]; rfl
  unfold Scr.v
  rw [eA]
  generalize maxI s.bits = MX at *
  generalize maxB s.bits = MB at *
  have HLD:=hd_ hLD
  clear hLD ho eA hs h hR hN hl  hk123 hk
  go_enter Tryz.func57,Tryz.ntmps57
  go_upto_region 1 with fail
  refine at_world (fun V => Bel w V ∧ V.heap[w.heap.size]? = some (oSp s (some ⟨g,off,none⟩) s.pn s.pc)) ⟨(Bel.refl w).al _,at_new (by first | rfl | simp)⟩ ?_
  rintro V ⟨hX,eS⟩
  have Ss:=lt_of_heap eS
  have S_0:=cq0 eS rfl
  have S_8:=cq8 eS rfl
  have S_9:=cq9 eS rfl
  have fS:=frozA eS
  have hld:=HLD.out _ hX
  go_upto_region 4 with (first | ((with_reducible show wpList _ _ _ (⟨some 23,_,_,_,_,_⟩ :: _) _ _); refine wpList_ld rfl rfl rfl (hld) ?_) | fail)
  refine at_world (fun Y => Bel w Y ∧ Y.heap[w.heap.size]? = some (oSp s (some ⟨g,off,none⟩) s.pn s.pc) ∧ Y.heap[V.heap.size]? = some (oOp o)) ⟨hX.al _,at_old eS,at_new (by first | rfl | simp)⟩ ?_
  clear hX eS hld S_0 S_8 S_9 Ss fS
  rintro Y ⟨hX,eS,eO⟩
  have Ss:=lt_of_heap eS
  have Os:=lt_of_heap eO
  have S_0:=cq0 eS rfl
  have S_8:=cq8 eS rfl
  have S_9:=cq9 eS rfl
  have O_0:=cq0 eO rfl
  have O_1:=cq1 eO rfl
  have O_2:=cq2 eO rfl
  have O_3:=cq3 eO rfl
  have O_4:=cq4 eO rfl
  have O_5:=cq5 eO rfl
  have O_6:=cq6 eO rfl
  have O_7:=cq7 eO rfl
  have O_8:=cq8 eO rfl
  have O_9:=cq9 eO rfl
  have O_10:=cq10 eO rfl
  have O_11:=cq11 eO rfl
  have fS:=frozA eS
  have fO:=frozA eO
  go_wp2_with (first | ((first | (go_at_call 29; (with_reducible refine (hMx.out _).mono ?_)) | (go_at_call 69; (with_reducible refine (hFl.out _).mono ?_)) | (go_at_call 70; (with_reducible refine (hOn.out _ (ruled_bel HR.out hX)).mono ?_))); rintro e w1 ⟨rfl,hb⟩; replace hX:=hX.trans hb; replace eS:=hb.heap eS; replace eO:=hb.heap eO; clear Ss S_0 S_8 S_9 fS Os O_0 O_1 O_2 O_3 O_4 O_5 O_6 O_7 O_8 O_9 O_10 O_11 fO; have Ss:=lt_of_heap eS; have Os:=lt_of_heap eO; have S_0:=cq0 eS rfl; have S_8:=cq8 eS rfl; have S_9:=cq9 eS rfl; have O_0:=cq0 eO rfl; have O_1:=cq1 eO rfl; have O_2:=cq2 eO rfl; have O_3:=cq3 eO rfl; have O_4:=cq4 eO rfl; have O_5:=cq5 eO rfl; have O_6:=cq6 eO rfl; have O_7:=cq7 eO rfl; have O_8:=cq8 eO rfl; have O_9:=cq9 eO rfl; have O_10:=cq10 eO rfl; have O_11:=cq11 eO rfl; have fS:=frozA eS; have fO:=frozA eO; clear hb) | (go_at_call 50; (with_reducible refine (hNr.out _ _ _ ?_).mono ?_); exact sl4 (at_new (by first | rfl | simp)); rintro e w1 ⟨rfl,hb⟩; replace hb:=((Bel.refl _).al _).trans hb; replace hX:=hX.trans hb; replace eS:=hb.heap eS; replace eO:=hb.heap eO; clear Ss S_0 S_8 S_9 fS Os O_0 O_1 O_2 O_3 O_4 O_5 O_6 O_7 O_8 O_9 O_10 O_11 fO; have Ss:=lt_of_heap eS; have Os:=lt_of_heap eO; have S_0:=cq0 eS rfl; have S_8:=cq8 eS rfl; have S_9:=cq9 eS rfl; have O_0:=cq0 eO rfl; have O_1:=cq1 eO rfl; have O_2:=cq2 eO rfl; have O_3:=cq3 eO rfl; have O_4:=cq4 eO rfl; have O_5:=cq5 eO rfl; have O_6:=cq6 eO rfl; have O_7:=cq7 eO rfl; have O_8:=cq8 eO rfl; have O_9:=cq9 eO rfl; have O_10:=cq10 eO rfl; have O_11:=cq11 eO rfl; have fS:=frozA eS; have fO:=frozA eO; clear hb) | ((with_reducible show wpList _ _ _ (⟨some 45,_,_,_,_,_⟩ :: _) _ _); refine wpList_ld rfl rfl rfl (opr_ld eO) ?_) | fail)
  go_returns
  exact ⟨rfl,hX⟩):p:=h
set_option maxHeartbeats 4000000 in
theorem op_op_1 (s:Scr) (i:Nat) (o:Opr) (ho:s.ops[i]? = some o) (l:List Opr) (n:Nat) (hn:n ≤ 1000) (hl:l.length = n) (A:Option Addr) (c:Nat) (w:World) (hs:s.In w) (hN:Named w) (hR:Ruled w) (h:Sl w 12 n A (oprs l)) (hk:o.k = 1) (e1:fieldsB o = true) (i0:0 ≤ o.im) (i1:o.im < s.inn) (m0:0 ≤ o.ms) (m1:o.ms ≤ s.inn) (e2:nearB [o.x,o.y,o.mx,o.my] = true) (hoc:o.oc ≤ maxI s.bits) (e3:opIs o.op = false):Calls Tryz.prog 57 #[s.v,.int .i64 i,.slice A n c] w fun e w' => e = .returned (.int .i64 14) ∧ Bel w w':=by
 have hi:i < s.pn:=by have:=hs.lops; rw [← this]; exact (List.getElem?_eq_some_iff.1 ho).1
 have HR:=hd_ hR
 have HN:=hd_ hN
 have HL:=hd_ h
 have hpn:=hs.pn
 have hin:=hs.inn
 obtain ⟨g,off,eA,lg,hLD⟩:=hs.ops.opld ho hi
 have hk123:o.k = 1 ∨ o.k = 2 ∨ o.k = 3:=by omega
 have hMx:=hd_ (fun w => calls_bs (smax_call s.bits w))
 have hFl:=hd_ (fields_call o hk123)
 have hNr:=hd_ (fun (W:World) (g c:Nat) (hh:Sl W 1 4 (some ⟨g,0,none⟩) _) => calls_bs (near_call [o.x,o.y,o.mx,o.my] 4 (by decide) rfl _ c W hh))
 have hOn:=hd_ (fun W h => calls_bel (name_call o.op W h))
 rw [e1] at hFl
 rw [e2] at hNr
 have hz1:=(opName_iff o.op).2 e3
 have ka1:(o.k == 1) = true:=by simp; omega
 have kb1:(o.k != 1) = false:=by rw [bne,ka1]; rfl
 have ka2:(o.k == 2) = false:=by simp; omega
 have kb2:(o.k != 2) = true:=by rw [bne,ka2]; rfl
 exact tlVOpc5
theorem tlVOpc2 {p:Prop} (h:p:=by
  have ka3:(o.k == 3) = false:=by simp; omega
  have kb3:(o.k != 3) = true:=by rw [bne,ka3]; rfl
  unfold Scr.v
  rw [eA]
  generalize maxI s.bits = MX at *
  generalize maxB s.bits = MB at *
  have HLD:=hd_ hLD
  clear hLD ho eA hs h hR hN hl  hk123 hk
  go_enter Tryz.func57,Tryz.ntmps57
  go_upto_region 1 with fail
  refine at_world (fun V => Bel w V ∧ V.heap[w.heap.size]? = some (oSp s (some ⟨g,off,none⟩) s.pn s.pc)) ⟨(Bel.refl w).al _,at_new (by first | rfl | simp)⟩ ?_
  rintro V ⟨hX,eS⟩
  have Ss:=lt_of_heap eS
  have S_0:=cq0 eS rfl
  have S_8:=cq8 eS rfl
  have S_9:=cq9 eS rfl
  have fS:=frozA eS
  have hld:=HLD.out _ hX
  go_upto_region 4 with (first | ((with_reducible show wpList _ _ _ (⟨some 23,_,_,_,_,_⟩ :: _) _ _); refine wpList_ld rfl rfl rfl (hld) ?_) | fail)
  refine at_world (fun Y => Bel w Y ∧ Y.heap[w.heap.size]? = some (oSp s (some ⟨g,off,none⟩) s.pn s.pc) ∧ Y.heap[V.heap.size]? = some (oOp o)) ⟨hX.al _,at_old eS,at_new (by first | rfl | simp)⟩ ?_
  clear hX eS hld S_0 S_8 S_9 Ss fS
  rintro Y ⟨hX,eS,eO⟩
  have Ss:=lt_of_heap eS
  have Os:=lt_of_heap eO
  have S_0:=cq0 eS rfl
  have S_8:=cq8 eS rfl
  have S_9:=cq9 eS rfl
  have O_0:=cq0 eO rfl
  have O_1:=cq1 eO rfl
  have O_2:=cq2 eO rfl
  have O_3:=cq3 eO rfl
  have O_4:=cq4 eO rfl
  have O_5:=cq5 eO rfl
  have O_6:=cq6 eO rfl
  have O_7:=cq7 eO rfl
  have O_8:=cq8 eO rfl
  have O_9:=cq9 eO rfl
  have O_10:=cq10 eO rfl
  have O_11:=cq11 eO rfl
  have fS:=frozA eS
  have fO:=frozA eO
  go_wp2_with (first | ((first | (go_at_call 29; (with_reducible refine (hMx.out _).mono ?_)) | (go_at_call 69; (with_reducible refine (hFl.out _).mono ?_)) | (go_at_call 70; (with_reducible refine (hOn.out _ (ruled_bel HR.out hX)).mono ?_)) | (go_at_call 71; (with_reducible refine (hMn.out _ (named_bel HN.out hX)).mono ?_))); rintro e w1 ⟨rfl,hb⟩; replace hX:=hX.trans hb; replace eS:=hb.heap eS; replace eO:=hb.heap eO; clear Ss S_0 S_8 S_9 fS Os O_0 O_1 O_2 O_3 O_4 O_5 O_6 O_7 O_8 O_9 O_10 O_11 fO; have Ss:=lt_of_heap eS; have Os:=lt_of_heap eO; have S_0:=cq0 eS rfl; have S_8:=cq8 eS rfl; have S_9:=cq9 eS rfl; have O_0:=cq0 eO rfl; have O_1:=cq1 eO rfl; have O_2:=cq2 eO rfl; have O_3:=cq3 eO rfl; have O_4:=cq4 eO rfl; have O_5:=cq5 eO rfl; have O_6:=cq6 eO rfl; have O_7:=cq7 eO rfl; have O_8:=cq8 eO rfl; have O_9:=cq9 eO rfl; have O_10:=cq10 eO rfl; have O_11:=cq11 eO rfl; have fS:=frozA eS; have fO:=frozA eO; clear hb) | (go_at_call 50; (with_reducible refine (hNr.out _ _ _ ?_).mono ?_); exact sl4 (at_new (by first | rfl | simp)); rintro e w1 ⟨rfl,hb⟩; replace hb:=((Bel.refl _).al _).trans hb; replace hX:=hX.trans hb; replace eS:=hb.heap eS; replace eO:=hb.heap eO; clear Ss S_0 S_8 S_9 fS Os O_0 O_1 O_2 O_3 O_4 O_5 O_6 O_7 O_8 O_9 O_10 O_11 fO; have Ss:=lt_of_heap eS; have Os:=lt_of_heap eO; have S_0:=cq0 eS rfl; have S_8:=cq8 eS rfl; have S_9:=cq9 eS rfl; have O_0:=cq0 eO rfl; have O_1:=cq1 eO rfl; have O_2:=cq2 eO rfl; have O_3:=cq3 eO rfl; have O_4:=cq4 eO rfl; have O_5:=cq5 eO rfl; have O_6:=cq6 eO rfl; have O_7:=cq7 eO rfl; have O_8:=cq8 eO rfl; have O_9:=cq9 eO rfl; have O_10:=cq10 eO rfl; have O_11:=cq11 eO rfl; have fS:=frozA eS; have fO:=frozA eO; clear hb) | ((with_reducible show wpList _ _ _ (⟨some 45,_,_,_,_,_⟩ :: _) _ _); refine wpList_ld rfl rfl rfl (opr_ld eO) ?_) | fail)
  go_returns
  exact ⟨rfl,hX⟩):p:=h
theorem tlVOpc13 {p:Prop} (h:p:=by
  have ka1:(o.k == 1) = true:=by simp; omega
  have kb1:(o.k != 1) = false:=by rw [bne,ka1]; rfl
  have ka2:(o.k == 2) = false:=by simp; omega
  have kb2:(o.k != 2) = true:=by rw [bne,ka2]; rfl
  exact tlVOpc2):p:=h
set_option maxHeartbeats 4000000 in
theorem op_md_1 (s:Scr) (i:Nat) (o:Opr) (ho:s.ops[i]? = some o) (l:List Opr) (n:Nat) (hn:n ≤ 1000) (hl:l.length = n) (A:Option Addr) (c:Nat) (w:World) (hs:s.In w) (hN:Named w) (hR:Ruled w) (h:Sl w 12 n A (oprs l)) (hk:o.k = 1) (e1:fieldsB o = true) (i0:0 ≤ o.im) (i1:o.im < s.inn) (m0:0 ≤ o.ms) (m1:o.ms ≤ s.inn) (e2:nearB [o.x,o.y,o.mx,o.my] = true) (hoc:o.oc ≤ maxI s.bits) (e3:opIs o.op = true) (e4:opIs o.md = false):Calls Tryz.prog 57 #[s.v,.int .i64 i,.slice A n c] w fun e w' => e = .returned (.int .i64 15) ∧ Bel w w':=by
 have hi:i < s.pn:=by have:=hs.lops; rw [← this]; exact (List.getElem?_eq_some_iff.1 ho).1
 have HR:=hd_ hR
 have HN:=hd_ hN
 have HL:=hd_ h
 have hpn:=hs.pn
 have hin:=hs.inn
 obtain ⟨g,off,eA,lg,hLD⟩:=hs.ops.opld ho hi
 have hk123:o.k = 1 ∨ o.k = 2 ∨ o.k = 3:=by omega
 have hMx:=hd_ (fun w => calls_bs (smax_call s.bits w))
 have hFl:=hd_ (fields_call o hk123)
 have hNr:=hd_ (fun (W:World) (g c:Nat) (hh:Sl W 1 4 (some ⟨g,0,none⟩) _) => calls_bs (near_call [o.x,o.y,o.mx,o.my] 4 (by decide) rfl _ c W hh))
 have hOn:=hd_ (fun W h => calls_bel (name_call o.op W h))
 have hMn:=hd_ (fun W h => calls_bs (bname_call o.md W h))
 rw [e1] at hFl
 rw [e2] at hNr
 have hz1:¬ (opName o.op).toList = []:=fun h => by rw [(opName_iff o.op).1 h] at e3; cases e3
 generalize opName o.op = ON at *
 have hy1:ON.toList.isEmpty = false:=by cases hT:ON.toList with | nil => exact absurd hT hz1 | cons => rfl
 have hw1:(ON.toList == []) = false:=by cases hT:ON.toList with | nil => exact absurd hT hz1 | cons => rfl
 have hz2:=(mdName_iff o.md).2 e4
 generalize mdName o.md = MN at *
 exact tlVOpc13
theorem tlVOpc1 {p:Prop} (h:p:=by
  have ka3:(o.k == 3) = false:=by simp; omega
  have kb3:(o.k != 3) = true:=by rw [bne,ka3]; rfl
  unfold Scr.v
  rw [eA]
  generalize maxI s.bits = MX at *
  generalize maxB s.bits = MB at *
  have HLD:=hd_ hLD
  clear hLD ho eA hs h hR hN hl  hk123 hk
  go_enter Tryz.func57,Tryz.ntmps57
  go_upto_region 1 with fail
  refine at_world (fun V => Bel w V ∧ V.heap[w.heap.size]? = some (oSp s (some ⟨g,off,none⟩) s.pn s.pc)) ⟨(Bel.refl w).al _,at_new (by first | rfl | simp)⟩ ?_
  rintro V ⟨hX,eS⟩
  have Ss:=lt_of_heap eS
  have S_0:=cq0 eS rfl
  have S_8:=cq8 eS rfl
  have S_9:=cq9 eS rfl
  have fS:=frozA eS
  have hld:=HLD.out _ hX
  go_upto_region 4 with (first | ((with_reducible show wpList _ _ _ (⟨some 23,_,_,_,_,_⟩ :: _) _ _); refine wpList_ld rfl rfl rfl (hld) ?_) | fail)
  refine at_world (fun Y => Bel w Y ∧ Y.heap[w.heap.size]? = some (oSp s (some ⟨g,off,none⟩) s.pn s.pc) ∧ Y.heap[V.heap.size]? = some (oOp o)) ⟨hX.al _,at_old eS,at_new (by first | rfl | simp)⟩ ?_
  clear hX eS hld S_0 S_8 S_9 Ss fS
  rintro Y ⟨hX,eS,eO⟩
  have Ss:=lt_of_heap eS
  have Os:=lt_of_heap eO
  have S_0:=cq0 eS rfl
  have S_8:=cq8 eS rfl
  have S_9:=cq9 eS rfl
  have O_0:=cq0 eO rfl
  have O_1:=cq1 eO rfl
  have O_2:=cq2 eO rfl
  have O_3:=cq3 eO rfl
  have O_4:=cq4 eO rfl
  have O_5:=cq5 eO rfl
  have O_6:=cq6 eO rfl
  have O_7:=cq7 eO rfl
  have O_8:=cq8 eO rfl
  have O_9:=cq9 eO rfl
  have O_10:=cq10 eO rfl
  have O_11:=cq11 eO rfl
  have fS:=frozA eS
  have fO:=frozA eO
  go_wp2_with (first | ((first | (go_at_call 29; (with_reducible refine (hMx.out _).mono ?_)) | (go_at_call 69; (with_reducible refine (hFl.out _).mono ?_)) | (go_at_call 70; (with_reducible refine (hOn.out _ (ruled_bel HR.out hX)).mono ?_)) | (go_at_call 71; (with_reducible refine (hMn.out _ (named_bel HN.out hX)).mono ?_)) | (go_at_call 72; (with_reducible refine (hCt.out _ (HL.out.bel hX)).mono ?_))); rintro e w1 ⟨rfl,hb⟩; replace hX:=hX.trans hb; replace eS:=hb.heap eS; replace eO:=hb.heap eO; clear Ss S_0 S_8 S_9 fS Os O_0 O_1 O_2 O_3 O_4 O_5 O_6 O_7 O_8 O_9 O_10 O_11 fO; have Ss:=lt_of_heap eS; have Os:=lt_of_heap eO; have S_0:=cq0 eS rfl; have S_8:=cq8 eS rfl; have S_9:=cq9 eS rfl; have O_0:=cq0 eO rfl; have O_1:=cq1 eO rfl; have O_2:=cq2 eO rfl; have O_3:=cq3 eO rfl; have O_4:=cq4 eO rfl; have O_5:=cq5 eO rfl; have O_6:=cq6 eO rfl; have O_7:=cq7 eO rfl; have O_8:=cq8 eO rfl; have O_9:=cq9 eO rfl; have O_10:=cq10 eO rfl; have O_11:=cq11 eO rfl; have fS:=frozA eS; have fO:=frozA eO; clear hb) | (go_at_call 50; (with_reducible refine (hNr.out _ _ _ ?_).mono ?_); exact sl4 (at_new (by first | rfl | simp)); rintro e w1 ⟨rfl,hb⟩; replace hb:=((Bel.refl _).al _).trans hb; replace hX:=hX.trans hb; replace eS:=hb.heap eS; replace eO:=hb.heap eO; clear Ss S_0 S_8 S_9 fS Os O_0 O_1 O_2 O_3 O_4 O_5 O_6 O_7 O_8 O_9 O_10 O_11 fO; have Ss:=lt_of_heap eS; have Os:=lt_of_heap eO; have S_0:=cq0 eS rfl; have S_8:=cq8 eS rfl; have S_9:=cq9 eS rfl; have O_0:=cq0 eO rfl; have O_1:=cq1 eO rfl; have O_2:=cq2 eO rfl; have O_3:=cq3 eO rfl; have O_4:=cq4 eO rfl; have O_5:=cq5 eO rfl; have O_6:=cq6 eO rfl; have O_7:=cq7 eO rfl; have O_8:=cq8 eO rfl; have O_9:=cq9 eO rfl; have O_10:=cq10 eO rfl; have O_11:=cq11 eO rfl; have fS:=frozA eS; have fO:=frozA eO; clear hb) | ((with_reducible show wpList _ _ _ (⟨some 45,_,_,_,_,_⟩ :: _) _ _); refine wpList_ld rfl rfl rfl (opr_ld eO) ?_) | fail)
  go_returns
  exact ⟨rfl,hX⟩):p:=h
theorem tlVOpc7 {p:Prop} (h:p:=by
  have hi:i < s.pn:=by have:=hs.lops; rw [← this]; exact (List.getElem?_eq_some_iff.1 ho).1
  have HR:=hd_ hR
  have HN:=hd_ hN
  have HL:=hd_ h
  have hpn:=hs.pn
  have hin:=hs.inn
  obtain ⟨g,off,eA,lg,hLD⟩:=hs.ops.opld ho hi
  have hk123:o.k = 1 ∨ o.k = 2 ∨ o.k = 3:=by omega
  have hMx:=hd_ (fun w => calls_bs (smax_call s.bits w))
  have hFl:=hd_ (fields_call o hk123)
  have hNr:=hd_ (fun (W:World) (g c:Nat) (hh:Sl W 1 4 (some ⟨g,0,none⟩) _) => calls_bs (near_call [o.x,o.y,o.mx,o.my] 4 (by decide) rfl _ c W hh))
  have hOn:=hd_ (fun W h => calls_bel (name_call o.op W h))
  have hMn:=hd_ (fun W h => calls_bs (bname_call o.md W h))
  have hCt:=hd_ (context_call l n hn hl A c)
  rw [e1] at hFl
  rw [e2] at hNr
  have hz1:¬ (opName o.op).toList = []:=fun h => by rw [(opName_iff o.op).1 h] at e3; cases e3
  generalize opName o.op = ON at *
  have hy1:ON.toList.isEmpty = false:=by cases hT:ON.toList with | nil => exact absurd hT hz1 | cons => rfl
  have hw1:(ON.toList == []) = false:=by cases hT:ON.toList with | nil => exact absurd hT hz1 | cons => rfl
  have hz2:¬ (mdName o.md).toList = []:=fun h => by rw [(mdName_iff o.md).1 h] at e4; cases e4
  generalize mdName o.md = MN at *
  have hy2:MN.toList.isEmpty = false:=by cases hT:MN.toList with | nil => exact absurd hT hz2 | cons => rfl
  have hw2:(MN.toList == []) = false:=by cases hT:MN.toList with | nil => exact absurd hT hz2 | cons => rfl
  have na4:(o.op == 4) = false:=beq_eq_false_iff_ne.2 e5
  have nb4:(o.op != 4) = true:=by rw [bne,na4]; rfl
  rw [e6] at hCt
  have ka1:(o.k == 1) = true:=by simp; omega
  have kb1:(o.k != 1) = false:=by rw [bne,ka1]; rfl
  have ka2:(o.k == 2) = false:=by simp; omega
  have kb2:(o.k != 2) = true:=by rw [bne,ka2]; rfl
  exact tlVOpc1):p:=h
set_option maxHeartbeats 4000000 in
theorem op_ctx_1 (s:Scr) (i:Nat) (o:Opr) (ho:s.ops[i]? = some o) (l:List Opr) (n:Nat) (hn:n ≤ 1000) (hl:l.length = n) (A:Option Addr) (c:Nat) (w:World) (hs:s.In w) (hN:Named w) (hR:Ruled w) (h:Sl w 12 n A (oprs l)) (hk:o.k = 1) (e1:fieldsB o = true) (i0:0 ≤ o.im) (i1:o.im < s.inn) (m0:0 ≤ o.ms) (m1:o.ms ≤ s.inn) (e2:nearB [o.x,o.y,o.mx,o.my] = true) (hoc:o.oc ≤ maxI s.bits) (e3:opIs o.op = true) (e4:opIs o.md = true) (e5:o.op ≠ 4) (e6:ctxB l = false):Calls Tryz.prog 57 #[s.v,.int .i64 i,.slice A n c] w fun e w' => e = .returned (.int .i64 16) ∧ Bel w w':=by
 exact tlVOpc7
set_option maxHeartbeats 4000000 in
theorem op_ok_1a (s:Scr) (i:Nat) (o:Opr) (ho:s.ops[i]? = some o) (l:List Opr) (n:Nat) (hn:n ≤ 1000) (hl:l.length = n) (A:Option Addr) (c:Nat) (w:World) (hs:s.In w) (hN:Named w) (hR:Ruled w) (h:Sl w 12 n A (oprs l)) (hk:o.k = 1) (e1:fieldsB o = true) (i0:0 ≤ o.im) (i1:o.im < s.inn) (m0:0 ≤ o.ms) (m1:o.ms ≤ s.inn) (e2:nearB [o.x,o.y,o.mx,o.my] = true) (hoc:o.oc ≤ maxI s.bits) (e3:opIs o.op = true) (e4:opIs o.md = true) (e5:o.op = 4):Calls Tryz.prog 57 #[s.v,.int .i64 i,.slice A n c] w fun e w' => e = .returned (.int .i64 0) ∧ Bel w w':=by
 have hi:i < s.pn:=by have:=hs.lops; rw [← this]; exact (List.getElem?_eq_some_iff.1 ho).1
 have HR:=hd_ hR
 have HN:=hd_ hN
 have HL:=hd_ h
 have hpn:=hs.pn
 have hin:=hs.inn
 obtain ⟨g,off,eA,lg,hLD⟩:=hs.ops.opld ho hi
 have hk123:o.k = 1 ∨ o.k = 2 ∨ o.k = 3:=by omega
 have hMx:=hd_ (fun w => calls_bs (smax_call s.bits w))
 have hFl:=hd_ (fields_call o hk123)
 have hNr:=hd_ (fun (W:World) (g c:Nat) (hh:Sl W 1 4 (some ⟨g,0,none⟩) _) => calls_bs (near_call [o.x,o.y,o.mx,o.my] 4 (by decide) rfl _ c W hh))
 have hOn:=hd_ (fun W h => calls_bel (name_call o.op W h))
 have hMn:=hd_ (fun W h => calls_bs (bname_call o.md W h))
 rw [e1] at hFl
 rw [e2] at hNr
 have hz1:¬ (opName o.op).toList = []:=fun h => by rw [(opName_iff o.op).1 h] at e3; cases e3
 generalize opName o.op = ON at *
 have hy1:ON.toList.isEmpty = false:=by cases hT:ON.toList with | nil => exact absurd hT hz1 | cons => rfl
 have hw1:(ON.toList == []) = false:=by cases hT:ON.toList with | nil => exact absurd hT hz1 | cons => rfl
 have hz2:¬ (mdName o.md).toList = []:=fun h => by rw [(mdName_iff o.md).1 h] at e4; cases e4
 generalize mdName o.md = MN at *
 have hy2:MN.toList.isEmpty = false:=by cases hT:MN.toList with | nil => exact absurd hT hz2 | cons => rfl
 have hw2:(MN.toList == []) = false:=by cases hT:MN.toList with | nil => exact absurd hT hz2 | cons => rfl
 have na4:(o.op == 4) = true:=beq_iff_eq.2 e5
 have nb4:(o.op != 4) = false:=by rw [bne,na4]; rfl
 clear e5
 exact tlVOpc13
set_option maxHeartbeats 4000000 in
theorem op_ok_1b (s:Scr) (i:Nat) (o:Opr) (ho:s.ops[i]? = some o) (l:List Opr) (n:Nat) (hn:n ≤ 1000) (hl:l.length = n) (A:Option Addr) (c:Nat) (w:World) (hs:s.In w) (hN:Named w) (hR:Ruled w) (h:Sl w 12 n A (oprs l)) (hk:o.k = 1) (e1:fieldsB o = true) (i0:0 ≤ o.im) (i1:o.im < s.inn) (m0:0 ≤ o.ms) (m1:o.ms ≤ s.inn) (e2:nearB [o.x,o.y,o.mx,o.my] = true) (hoc:o.oc ≤ maxI s.bits) (e3:opIs o.op = true) (e4:opIs o.md = true) (e5:o.op ≠ 4) (e6:ctxB l = true):Calls Tryz.prog 57 #[s.v,.int .i64 i,.slice A n c] w fun e w' => e = .returned (.int .i64 0) ∧ Bel w w':=by
 exact tlVOpc7
set_option maxHeartbeats 4000000 in
theorem op_ms0_2 (s:Scr) (i:Nat) (o:Opr) (ho:s.ops[i]? = some o) (l:List Opr) (n:Nat) (hn:n ≤ 1000) (hl:l.length = n) (A:Option Addr) (c:Nat) (w:World) (hs:s.In w) (hN:Named w) (hR:Ruled w) (h:Sl w 12 n A (oprs l)) (hk:o.k = 2) (e1:fieldsB o = true) (m0:o.ms < 0):Calls Tryz.prog 57 #[s.v,.int .i64 i,.slice A n c] w fun e w' => e = .returned (.int .i64 11) ∧ Bel w w':=by
 exact tlVOpc9
set_option maxHeartbeats 4000000 in
theorem op_ms1_2 (s:Scr) (i:Nat) (o:Opr) (ho:s.ops[i]? = some o) (l:List Opr) (n:Nat) (hn:n ≤ 1000) (hl:l.length = n) (A:Option Addr) (c:Nat) (w:World) (hs:s.In w) (hN:Named w) (hR:Ruled w) (h:Sl w 12 n A (oprs l)) (hk:o.k = 2) (e1:fieldsB o = true) (m0:0 ≤ o.ms) (m1:s.inn < o.ms):Calls Tryz.prog 57 #[s.v,.int .i64 i,.slice A n c] w fun e w' => e = .returned (.int .i64 11) ∧ Bel w w':=by
 exact tlVOpc9
theorem tlVOpc11 {p:Prop} (h:p:=by
  have hi:i < s.pn:=by have:=hs.lops; rw [← this]; exact (List.getElem?_eq_some_iff.1 ho).1
  have HR:=hd_ hR
  have HN:=hd_ hN
  have HL:=hd_ h
  have hpn:=hs.pn
  have hin:=hs.inn
  obtain ⟨g,off,eA,lg,hLD⟩:=hs.ops.opld ho hi
  have hk123:o.k = 1 ∨ o.k = 2 ∨ o.k = 3:=by omega
  have hMx:=hd_ (fun w => calls_bs (smax_call s.bits w))
  have hFl:=hd_ (fields_call o hk123)
  have hNr:=hd_ (fun (W:World) (g c:Nat) (hh:Sl W 1 4 (some ⟨g,0,none⟩) _) => calls_bs (near_call [o.x,o.y,o.mx,o.my] 4 (by decide) rfl _ c W hh))
  rw [e1] at hFl
  rw [e2] at hNr
  have ka1:(o.k == 1) = false:=by simp; omega
  have kb1:(o.k != 1) = true:=by rw [bne,ka1]; rfl
  have ka2:(o.k == 2) = true:=by simp; omega
  have kb2:(o.k != 2) = false:=by rw [bne,ka2]; rfl
  exact tlVOpc3):p:=h
set_option maxHeartbeats 4000000 in
theorem op_near_2 (s:Scr) (i:Nat) (o:Opr) (ho:s.ops[i]? = some o) (l:List Opr) (n:Nat) (hn:n ≤ 1000) (hl:l.length = n) (A:Option Addr) (c:Nat) (w:World) (hs:s.In w) (hN:Named w) (hR:Ruled w) (h:Sl w 12 n A (oprs l)) (hk:o.k = 2) (e1:fieldsB o = true) (m0:0 ≤ o.ms) (m1:o.ms ≤ s.inn) (e2:nearB [o.x,o.y,o.mx,o.my] = false):Calls Tryz.prog 57 #[s.v,.int .i64 i,.slice A n c] w fun e w' => e = .returned (.int .i64 12) ∧ Bel w w':=by
 exact tlVOpc11
set_option maxHeartbeats 4000000 in
theorem op_oc_2 (s:Scr) (i:Nat) (o:Opr) (ho:s.ops[i]? = some o) (l:List Opr) (n:Nat) (hn:n ≤ 1000) (hl:l.length = n) (A:Option Addr) (c:Nat) (w:World) (hs:s.In w) (hN:Named w) (hR:Ruled w) (h:Sl w 12 n A (oprs l)) (hk:o.k = 2) (e1:fieldsB o = true) (m0:0 ≤ o.ms) (m1:o.ms ≤ s.inn) (e2:nearB [o.x,o.y,o.mx,o.my] = true) (hoc:maxI s.bits < o.oc):Calls Tryz.prog 57 #[s.v,.int .i64 i,.slice A n c] w fun e w' => e = .returned (.int .i64 13) ∧ Bel w w':=by
 exact tlVOpc11
set_option maxHeartbeats 4000000 in
theorem op_op_2 (s:Scr) (i:Nat) (o:Opr) (ho:s.ops[i]? = some o) (l:List Opr) (n:Nat) (hn:n ≤ 1000) (hl:l.length = n) (A:Option Addr) (c:Nat) (w:World) (hs:s.In w) (hN:Named w) (hR:Ruled w) (h:Sl w 12 n A (oprs l)) (hk:o.k = 2) (e1:fieldsB o = true) (m0:0 ≤ o.ms) (m1:o.ms ≤ s.inn) (e2:nearB [o.x,o.y,o.mx,o.my] = true) (hoc:o.oc ≤ maxI s.bits) (e3:opIs o.op = false):Calls Tryz.prog 57 #[s.v,.int .i64 i,.slice A n c] w fun e w' => e = .returned (.int .i64 14) ∧ Bel w w':=by
 have hi:i < s.pn:=by have:=hs.lops; rw [← this]; exact (List.getElem?_eq_some_iff.1 ho).1
 have HR:=hd_ hR
 have HN:=hd_ hN
 have HL:=hd_ h
 have hpn:=hs.pn
 have hin:=hs.inn
 obtain ⟨g,off,eA,lg,hLD⟩:=hs.ops.opld ho hi
 have hk123:o.k = 1 ∨ o.k = 2 ∨ o.k = 3:=by omega
 have hMx:=hd_ (fun w => calls_bs (smax_call s.bits w))
 have hFl:=hd_ (fields_call o hk123)
 have hNr:=hd_ (fun (W:World) (g c:Nat) (hh:Sl W 1 4 (some ⟨g,0,none⟩) _) => calls_bs (near_call [o.x,o.y,o.mx,o.my] 4 (by decide) rfl _ c W hh))
 have hOn:=hd_ (fun W h => calls_bel (name_call o.op W h))
 rw [e1] at hFl
 rw [e2] at hNr
 have hz1:=(opName_iff o.op).2 e3
 have ka1:(o.k == 1) = false:=by simp; omega
 have kb1:(o.k != 1) = true:=by rw [bne,ka1]; rfl
 have ka2:(o.k == 2) = true:=by simp; omega
 have kb2:(o.k != 2) = false:=by rw [bne,ka2]; rfl
 exact tlVOpc5
set_option maxHeartbeats 4000000 in
theorem op_md_2 (s:Scr) (i:Nat) (o:Opr) (ho:s.ops[i]? = some o) (l:List Opr) (n:Nat) (hn:n ≤ 1000) (hl:l.length = n) (A:Option Addr) (c:Nat) (w:World) (hs:s.In w) (hN:Named w) (hR:Ruled w) (h:Sl w 12 n A (oprs l)) (hk:o.k = 2) (e1:fieldsB o = true) (m0:0 ≤ o.ms) (m1:o.ms ≤ s.inn) (e2:nearB [o.x,o.y,o.mx,o.my] = true) (hoc:o.oc ≤ maxI s.bits) (e3:opIs o.op = true) (e4:opIs o.md = false):Calls Tryz.prog 57 #[s.v,.int .i64 i,.slice A n c] w fun e w' => e = .returned (.int .i64 15) ∧ Bel w w':=by
 have hi:i < s.pn:=by have:=hs.lops; rw [← this]; exact (List.getElem?_eq_some_iff.1 ho).1
 have HR:=hd_ hR
 have HN:=hd_ hN
 have HL:=hd_ h
 have hpn:=hs.pn
 have hin:=hs.inn
 obtain ⟨g,off,eA,lg,hLD⟩:=hs.ops.opld ho hi
 have hk123:o.k = 1 ∨ o.k = 2 ∨ o.k = 3:=by omega
 have hMx:=hd_ (fun w => calls_bs (smax_call s.bits w))
 have hFl:=hd_ (fields_call o hk123)
 have hNr:=hd_ (fun (W:World) (g c:Nat) (hh:Sl W 1 4 (some ⟨g,0,none⟩) _) => calls_bs (near_call [o.x,o.y,o.mx,o.my] 4 (by decide) rfl _ c W hh))
 have hOn:=hd_ (fun W h => calls_bel (name_call o.op W h))
 have hMn:=hd_ (fun W h => calls_bs (bname_call o.md W h))
 rw [e1] at hFl
 rw [e2] at hNr
 have hz1:¬ (opName o.op).toList = []:=fun h => by rw [(opName_iff o.op).1 h] at e3; cases e3
 generalize opName o.op = ON at *
 have hy1:ON.toList.isEmpty = false:=by cases hT:ON.toList with | nil => exact absurd hT hz1 | cons => rfl
 have hw1:(ON.toList == []) = false:=by cases hT:ON.toList with | nil => exact absurd hT hz1 | cons => rfl
 have hz2:=(mdName_iff o.md).2 e4
 generalize mdName o.md = MN at *
 have ka1:(o.k == 1) = false:=by simp; omega
 have kb1:(o.k != 1) = true:=by rw [bne,ka1]; rfl
 have ka2:(o.k == 2) = true:=by simp; omega
 have kb2:(o.k != 2) = false:=by rw [bne,ka2]; rfl
 exact tlVOpc2
theorem tlVOpc4 {p:Prop} (h:p:=by
  have hi:i < s.pn:=by have:=hs.lops; rw [← this]; exact (List.getElem?_eq_some_iff.1 ho).1
  have HR:=hd_ hR
  have HN:=hd_ hN
  have HL:=hd_ h
  have hpn:=hs.pn
  have hin:=hs.inn
  obtain ⟨g,off,eA,lg,hLD⟩:=hs.ops.opld ho hi
  have hk123:o.k = 1 ∨ o.k = 2 ∨ o.k = 3:=by omega
  have hMx:=hd_ (fun w => calls_bs (smax_call s.bits w))
  have hFl:=hd_ (fields_call o hk123)
  have hNr:=hd_ (fun (W:World) (g c:Nat) (hh:Sl W 1 4 (some ⟨g,0,none⟩) _) => calls_bs (near_call [o.x,o.y,o.mx,o.my] 4 (by decide) rfl _ c W hh))
  have hOn:=hd_ (fun W h => calls_bel (name_call o.op W h))
  have hMn:=hd_ (fun W h => calls_bs (bname_call o.md W h))
  have hCt:=hd_ (context_call l n hn hl A c)
  rw [e1] at hFl
  rw [e2] at hNr
  have hz1:¬ (opName o.op).toList = []:=fun h => by rw [(opName_iff o.op).1 h] at e3; cases e3
  generalize opName o.op = ON at *
  have hy1:ON.toList.isEmpty = false:=by cases hT:ON.toList with | nil => exact absurd hT hz1 | cons => rfl
  have hw1:(ON.toList == []) = false:=by cases hT:ON.toList with | nil => exact absurd hT hz1 | cons => rfl
  have hz2:¬ (mdName o.md).toList = []:=fun h => by rw [(mdName_iff o.md).1 h] at e4; cases e4
  generalize mdName o.md = MN at *
  have hy2:MN.toList.isEmpty = false:=by cases hT:MN.toList with | nil => exact absurd hT hz2 | cons => rfl
  have hw2:(MN.toList == []) = false:=by cases hT:MN.toList with | nil => exact absurd hT hz2 | cons => rfl
  have na4:(o.op == 4) = false:=beq_eq_false_iff_ne.2 e5
  have nb4:(o.op != 4) = true:=by rw [bne,na4]; rfl
  rw [e6] at hCt
  have ka1:(o.k == 1) = false:=by simp; omega
  have kb1:(o.k != 1) = true:=by rw [bne,ka1]; rfl
  have ka2:(o.k == 2) = true:=by simp; omega
  have kb2:(o.k != 2) = false:=by rw [bne,ka2]; rfl
  exact tlVOpc1):p:=h
set_option maxHeartbeats 4000000 in
theorem op_ctx_2 (s:Scr) (i:Nat) (o:Opr) (ho:s.ops[i]? = some o) (l:List Opr) (n:Nat) (hn:n ≤ 1000) (hl:l.length = n) (A:Option Addr) (c:Nat) (w:World) (hs:s.In w) (hN:Named w) (hR:Ruled w) (h:Sl w 12 n A (oprs l)) (hk:o.k = 2) (e1:fieldsB o = true) (m0:0 ≤ o.ms) (m1:o.ms ≤ s.inn) (e2:nearB [o.x,o.y,o.mx,o.my] = true) (hoc:o.oc ≤ maxI s.bits) (e3:opIs o.op = true) (e4:opIs o.md = true) (e5:o.op ≠ 4) (e6:ctxB l = false):Calls Tryz.prog 57 #[s.v,.int .i64 i,.slice A n c] w fun e w' => e = .returned (.int .i64 16) ∧ Bel w w':=by
 exact tlVOpc4
theorem tlVOpc8 {p:Prop} (h:p:=by
  have hi:i < s.pn:=by have:=hs.lops; rw [← this]; exact (List.getElem?_eq_some_iff.1 ho).1
  have HR:=hd_ hR
  have HN:=hd_ hN
  have HL:=hd_ h
  have hpn:=hs.pn
  have hin:=hs.inn
  obtain ⟨g,off,eA,lg,hLD⟩:=hs.ops.opld ho hi
  have hk123:o.k = 1 ∨ o.k = 2 ∨ o.k = 3:=by omega
  have hMx:=hd_ (fun w => calls_bs (smax_call s.bits w))
  have hFl:=hd_ (fields_call o hk123)
  have hNr:=hd_ (fun (W:World) (g c:Nat) (hh:Sl W 1 4 (some ⟨g,0,none⟩) _) => calls_bs (near_call [o.x,o.y,o.mx,o.my] 4 (by decide) rfl _ c W hh))
  have hOn:=hd_ (fun W h => calls_bel (name_call o.op W h))
  have hMn:=hd_ (fun W h => calls_bs (bname_call o.md W h))
  rw [e1] at hFl
  rw [e2] at hNr
  have hz1:¬ (opName o.op).toList = []:=fun h => by rw [(opName_iff o.op).1 h] at e3; cases e3
  generalize opName o.op = ON at *
  have hy1:ON.toList.isEmpty = false:=by cases hT:ON.toList with | nil => exact absurd hT hz1 | cons => rfl
  have hw1:(ON.toList == []) = false:=by cases hT:ON.toList with | nil => exact absurd hT hz1 | cons => rfl
  have hz2:¬ (mdName o.md).toList = []:=fun h => by rw [(mdName_iff o.md).1 h] at e4; cases e4
  generalize mdName o.md = MN at *
  have hy2:MN.toList.isEmpty = false:=by cases hT:MN.toList with | nil => exact absurd hT hz2 | cons => rfl
  have hw2:(MN.toList == []) = false:=by cases hT:MN.toList with | nil => exact absurd hT hz2 | cons => rfl
  have na4:(o.op == 4) = true:=beq_iff_eq.2 e5
  have nb4:(o.op != 4) = false:=by rw [bne,na4]; rfl
  clear e5
  have ka1:(o.k == 1) = false:=by simp; omega
  have kb1:(o.k != 1) = true:=by rw [bne,ka1]; rfl
  have ka2:(o.k == 2) = true:=by simp; omega
  have kb2:(o.k != 2) = false:=by rw [bne,ka2]; rfl
  exact tlVOpc2):p:=h
set_option maxHeartbeats 4000000 in
theorem op_nst_2a (s:Scr) (i:Nat) (o:Opr) (ho:s.ops[i]? = some o) (l:List Opr) (n:Nat) (hn:n ≤ 1000) (hl:l.length = n) (A:Option Addr) (c:Nat) (w:World) (hs:s.In w) (hN:Named w) (hR:Ruled w) (h:Sl w 12 n A (oprs l)) (hk:o.k = 2) (e1:fieldsB o = true) (m0:0 ≤ o.ms) (m1:o.ms ≤ s.inn) (e2:nearB [o.x,o.y,o.mx,o.my] = true) (hoc:o.oc ≤ maxI s.bits) (e3:opIs o.op = true) (e4:opIs o.md = true) (e5:o.op = 4) (e7:64 ≤ n):Calls Tryz.prog 57 #[s.v,.int .i64 i,.slice A n c] w fun e w' => e = .returned (.int .i64 17) ∧ Bel w w':=by
 exact tlVOpc8
set_option maxHeartbeats 4000000 in
theorem op_ok_2a (s:Scr) (i:Nat) (o:Opr) (ho:s.ops[i]? = some o) (l:List Opr) (n:Nat) (hn:n ≤ 1000) (hl:l.length = n) (A:Option Addr) (c:Nat) (w:World) (hs:s.In w) (hN:Named w) (hR:Ruled w) (h:Sl w 12 n A (oprs l)) (hk:o.k = 2) (e1:fieldsB o = true) (m0:0 ≤ o.ms) (m1:o.ms ≤ s.inn) (e2:nearB [o.x,o.y,o.mx,o.my] = true) (hoc:o.oc ≤ maxI s.bits) (e3:opIs o.op = true) (e4:opIs o.md = true) (e5:o.op = 4) (e7:n < 64):Calls Tryz.prog 57 #[s.v,.int .i64 i,.slice A n c] w fun e w' => e = .returned (.int .i64 0) ∧ Bel w w':=by
 exact tlVOpc8
set_option maxHeartbeats 4000000 in
theorem op_nst_2b (s:Scr) (i:Nat) (o:Opr) (ho:s.ops[i]? = some o) (l:List Opr) (n:Nat) (hn:n ≤ 1000) (hl:l.length = n) (A:Option Addr) (c:Nat) (w:World) (hs:s.In w) (hN:Named w) (hR:Ruled w) (h:Sl w 12 n A (oprs l)) (hk:o.k = 2) (e1:fieldsB o = true) (m0:0 ≤ o.ms) (m1:o.ms ≤ s.inn) (e2:nearB [o.x,o.y,o.mx,o.my] = true) (hoc:o.oc ≤ maxI s.bits) (e3:opIs o.op = true) (e4:opIs o.md = true) (e5:o.op ≠ 4) (e6:ctxB l = true) (e7:64 ≤ n):Calls Tryz.prog 57 #[s.v,.int .i64 i,.slice A n c] w fun e w' => e = .returned (.int .i64 17) ∧ Bel w w':=by
 exact tlVOpc4
set_option maxHeartbeats 4000000 in
theorem op_ok_2b (s:Scr) (i:Nat) (o:Opr) (ho:s.ops[i]? = some o) (l:List Opr) (n:Nat) (hn:n ≤ 1000) (hl:l.length = n) (A:Option Addr) (c:Nat) (w:World) (hs:s.In w) (hN:Named w) (hR:Ruled w) (h:Sl w 12 n A (oprs l)) (hk:o.k = 2) (e1:fieldsB o = true) (m0:0 ≤ o.ms) (m1:o.ms ≤ s.inn) (e2:nearB [o.x,o.y,o.mx,o.my] = true) (hoc:o.oc ≤ maxI s.bits) (e3:opIs o.op = true) (e4:opIs o.md = true) (e5:o.op ≠ 4) (e6:ctxB l = true) (e7:n < 64):Calls Tryz.prog 57 #[s.v,.int .i64 i,.slice A n c] w fun e w' => e = .returned (.int .i64 0) ∧ Bel w w':=by
 exact tlVOpc4
theorem op_call (s:Scr) (i:Nat) (o:Opr) (ho:s.ops[i]? = some o) (l:List Opr) (n:Nat) (hn:n ≤ 1000) (hl:l.length = n) (A:Option Addr) (c:Nat) (w:World) (hs:s.In w) (hN:Named w) (hR:Ruled w) (h:Sl w 12 n A (oprs l)):Calls Tryz.prog 57 #[s.v,.int .i64 i,.slice A n c] w fun e w' => e = .returned (.int .i64 (opE s.inn s.mx o l)) ∧ Bel w w':=by
 unfold opE
 by_cases h1:o.k ≠ 1 ∧ o.k ≠ 2 ∧ o.k ≠ 3
 ·rw [if_pos h1]
  exact op_kind s i o ho l n hn hl A c w hs hN hR h h1.1 h1.2.1 h1.2.2
 rw [if_neg h1]
 cases e1:fieldsB o
 ·rw [if_pos rfl]
  have hk:o.k = 1 ∨ o.k = 2 ∨ o.k = 3:=by omega
  rcases hk with hk | hk | hk
  ·exact op_fld1 s i o ho l n hn hl A c w hs hN hR h hk e1
  ·exact op_fld2 s i o ho l n hn hl A c w hs hN hR h hk e1
  ·exact op_fld3 s i o ho l n hn hl A c w hs hN hR h hk e1
 rw [if_neg (by decide)]
 by_cases hk:o.k = 3
 ·by_cases hz:n = 0
  ·rw [if_pos ⟨hk,by omega⟩]
   exact op_pop0 s i o ho l n hn hl A c w hs hN hR h hk e1 hz
  ·rw [if_neg (by omega),if_pos hk]
   exact op_pop1 s i o ho l n hn hl A c w hs hN hR h hk e1 (by omega)
 rw [if_neg (by omega),if_neg hk]
 have hk:o.k = 1 ∨ o.k = 2:=by omega
 rcases hk with hk | hk
 ·by_cases i0:0 ≤ o.im
  case neg =>
   rw [if_pos (.inl ⟨hk,.inl (by omega)⟩)]
   exact op_im0 s i o ho l n hn hl A c w hs hN hR h hk e1 (by omega)
  by_cases i1:o.im < s.inn
  case neg =>
   rw [if_pos (.inl ⟨hk,.inr (by omega)⟩)]
   exact op_im1 s i o ho l n hn hl A c w hs hN hR h hk e1 i0 (by omega)
  by_cases m0:0 ≤ o.ms
  case neg =>
   rw [if_pos (.inr (.inl (by omega)))]
   exact op_ms0_1 s i o ho l n hn hl A c w hs hN hR h hk e1 i0 i1 (by omega)
  by_cases m1:o.ms ≤ s.inn
  case neg =>
   rw [if_pos (.inr (.inr (by omega)))]
   exact op_ms1_1 s i o ho l n hn hl A c w hs hN hR h hk e1 i0 i1 m0 (by omega)
  rw [if_neg (by omega)]
  cases e2:nearB [o.x,o.y,o.mx,o.my]
  case false =>
   rw [if_pos rfl]
   exact op_near_1 s i o ho l n hn hl A c w hs hN hR h hk e1 i0 i1 m0 m1 e2
  rw [if_neg (by decide)]
  by_cases hoc:s.mx < o.oc
  case pos =>
   rw [if_pos hoc]
   exact op_oc_1 s i o ho l n hn hl A c w hs hN hR h hk e1 i0 i1 m0 m1 e2 hoc
  rw [if_neg hoc]
  have hoc:o.oc ≤ maxI s.bits:=by unfold Scr.mx at hoc; omega
  cases e3:opIs o.op
  case false =>
   rw [if_pos rfl]
   exact op_op_1 s i o ho l n hn hl A c w hs hN hR h hk e1 i0 i1 m0 m1 e2 hoc e3
  rw [if_neg (by decide)]
  cases e4:opIs o.md
  case false =>
   rw [if_pos rfl]
   exact op_md_1 s i o ho l n hn hl A c w hs hN hR h hk e1 i0 i1 m0 m1 e2 hoc e3 e4
  rw [if_neg (by decide)]
  by_cases e5:o.op = 4
  case neg =>
   cases e6:ctxB l
   case false =>
    rw [if_pos ⟨e5,rfl⟩]
    exact op_ctx_1 s i o ho l n hn hl A c w hs hN hR h hk e1 i0 i1 m0 m1 e2 hoc e3 e4 e5 e6
   rw [if_neg (by simp)]
   rw [if_neg (by omega)]
   exact op_ok_1b s i o ho l n hn hl A c w hs hN hR h hk e1 i0 i1 m0 m1 e2 hoc e3 e4 e5 e6
  rw [if_neg (by simp [e5]),if_neg (by omega)]
  exact op_ok_1a s i o ho l n hn hl A c w hs hN hR h hk e1 i0 i1 m0 m1 e2 hoc e3 e4 e5
 ·by_cases m0:0 ≤ o.ms
  case neg =>
   rw [if_pos (.inr (.inl (by omega)))]
   exact op_ms0_2 s i o ho l n hn hl A c w hs hN hR h hk e1 (by omega)
  by_cases m1:o.ms ≤ s.inn
  case neg =>
   rw [if_pos (.inr (.inr (by omega)))]
   exact op_ms1_2 s i o ho l n hn hl A c w hs hN hR h hk e1 m0 (by omega)
  rw [if_neg (by omega)]
  cases e2:nearB [o.x,o.y,o.mx,o.my]
  case false =>
   rw [if_pos rfl]
   exact op_near_2 s i o ho l n hn hl A c w hs hN hR h hk e1 m0 m1 e2
  rw [if_neg (by decide)]
  by_cases hoc:s.mx < o.oc
  case pos =>
   rw [if_pos hoc]
   exact op_oc_2 s i o ho l n hn hl A c w hs hN hR h hk e1 m0 m1 e2 hoc
  rw [if_neg hoc]
  have hoc:o.oc ≤ maxI s.bits:=by unfold Scr.mx at hoc; omega
  cases e3:opIs o.op
  case false =>
   rw [if_pos rfl]
   exact op_op_2 s i o ho l n hn hl A c w hs hN hR h hk e1 m0 m1 e2 hoc e3
  rw [if_neg (by decide)]
  cases e4:opIs o.md
  case false =>
   rw [if_pos rfl]
   exact op_md_2 s i o ho l n hn hl A c w hs hN hR h hk e1 m0 m1 e2 hoc e3 e4
  rw [if_neg (by decide)]
  by_cases e5:o.op = 4
  case neg =>
   cases e6:ctxB l
   case false =>
    rw [if_pos ⟨e5,rfl⟩]
    exact op_ctx_2 s i o ho l n hn hl A c w hs hN hR h hk e1 m0 m1 e2 hoc e3 e4 e5 e6
   rw [if_neg (by simp)]
   by_cases e7:64 ≤ n
   ·rw [if_pos ⟨hk,by omega⟩]
    exact op_nst_2b s i o ho l n hn hl A c w hs hN hR h hk e1 m0 m1 e2 hoc e3 e4 e5 e6 e7
   ·rw [if_neg (by omega)]
    exact op_ok_2b s i o ho l n hn hl A c w hs hN hR h hk e1 m0 m1 e2 hoc e3 e4 e5 e6 (by omega)
  rw [if_neg (by simp [e5])]
  by_cases e7:64 ≤ n
  ·rw [if_pos ⟨hk,by omega⟩]
   exact op_nst_2a s i o ho l n hn hl A c w hs hN hR h hk e1 m0 m1 e2 hoc e3 e4 e5 e7
  ·rw [if_neg (by omega)]
   exact op_ok_2a s i o ho l n hn hl A c w hs hN hR h hk e1 m0 m1 e2 hoc e3 e4 e5 (by omega)
end Go.Proofs.YtepfoelgegljbaaGreatDoor
