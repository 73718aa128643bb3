/- Part A31. -/
import Derived.Laws.IdiomCopy
import Derived.Laws.CopyRow
import Derived.Test.YtepfoelgegljbaaGreatDoorA30
namespace Go.Proofs.YtepfoelgegljbaaGreatDoor
set_option maxRecDepth 100000
open Go.RowKit
set_option linter.unusedVariables false
set_option linter.unusedSimpArgs false
def Px.cmp (p:Px):Nat → Int
 | 0 => p.x
 | 1 => p.y
 | 2 => p.z
 | 3 => p.a
 | _ => p.f
def cmpL (l:List Px) (k:Nat):List Int:=l.map fun p => p.cmp k
theorem cmpL_len (l:List Px) (k:Nat):(cmpL l k).length = l.length:=by unfold cmpL; rw [List.length_map]
theorem idx_c5 (p:Px) (i:Nat) (hi:i < 5) (W:World):Sem.run Tryz.prog (Instr.index 121 (.agg #[.int .u16 p.x,.int .u16 p.y,.int .u16 p.z,.int .u16 p.a,.int .u16 p.f]) (.int .i64 (i:Int))) W = .ok (.int .u16 (p.cmp i)) W:=by
 have h:i = 0 ∨ i = 1 ∨ i = 2 ∨ i = 3 ∨ i = 4:=by omega
 rcases h with rfl | rfl | rfl | rfl | rfl
 all_goals (refine Eq.trans (b:=Result.ok _ W) ?_ rfl; kernel_rfl)
theorem smp_set (l:List Int) (i:Nat) (v:Int):(smp l).toArray.setIfInBounds i (.int .u16 v) = (smp (l.set i v)).toArray:=by
 unfold smp
 rw [lA_,List.map_set]
theorem smp_at {l:List Int} {i:Nat} {v:Int} (h:l[i]? = some v):(smp l).toArray[i]? = some (.int .u16 v):=by
 unfold smp
 rw [List.getElem?_toArray,List.getElem?_map,h]; rfl
theorem own_smp {w:World} {base g n:Nat} {l:List Int} {t:TypeId} (e:w.heap[g]? = some (.cells (smp l).toArray t)) (hl:l.length = n) (hb:base ≤ g) (hn:n ≤ maxLen):w.ownsRow base t 1 (.slice (some ⟨g,0,none⟩) n n) n (smp l) :=
 ⟨by unfold smp; rw [List.length_map,hl,Nat.mul_one],.inr ⟨g,n,_,rfl,hb,e,Nat.le_refl _,hn,by unfold smp; simp [hl],by unfold smp; rw [Nat.mul_one]; exact List.take_of_length_le (by simp [hl])⟩⟩
theorem wpList_stp {P:Program} {ops:Array Oper} {rest:List Oper} {op:Oper} {a:Act} {w:World} {Q:Exit → Act → World → Prop} {ty t:TypeId} {x y:Operand} {g o:Nat} (pre mid post xs:List Value) (hgd:op.guard = none) (ho:op.op = .store ty x y)
  (hx:a.eval x = .pointer (some ⟨g,o,none⟩)) (hy:a.eval y = .agg xs.toArray) (e:w.heap[g]? = some (.cells (pre ++ (mid ++ post)).toArray t)) (hl:mid.length = xs.length) (ho2:o = pre.length) (hi:(P.info? ty).map (·.size) = some xs.length) (h1:∀ v ∈ xs,v.oneCell' = true)
  (h:∀ W,W.heap[g]? = some (.cells (pre ++ (xs ++ post)).toArray t) → Upd g w W → wpList P ops Q rest (a.put op.dst undef) W):wpList P ops Q (op :: rest) a w:=by
 subst ho2
 have ht:w.there g pre.length xs.length:=fun j hj => ⟨by
  rw [cell_of e (Array.getElem?_eq_getElem (by simp; omega))]
  rfl,froz_cells e⟩
 refine wpList_store_mid hgd ty x y ho g pre.length xs.toArray hx hy (by simpa using ht) (by simpa using hi) (all_oneCell_toArray h1) (h _ ?_ (setCells_upd _ _ _ _))
 obtain ⟨cs',e',hs',hlo,hhi,hin⟩:=setCells_heap g t xs pre.length w _ e
 have hc:cs' = (pre ++ (xs ++ post)).toArray:=by
  apply Array.ext_getElem?
  intro j
  have e2:(pre ++ (xs ++ post)).toArray[j]? = (pre ++ (xs ++ post))[j]?:=by simp
  rw [e2]
  rcases Nat.lt_or_ge j pre.length with h | h
  ·rw [hlo j h,List.getElem?_toArray,List.getElem?_append_left h,List.getElem?_append_left h]
  ·rcases Nat.lt_or_ge j (pre.length + xs.length) with h2 | h2
   ·obtain ⟨i,rfl⟩:∃ i,j = pre.length + i:=⟨j - pre.length,by omega⟩
    rw [hin (by simp; omega) i _ (List.getElem?_eq_getElem (show i < xs.length by omega)),List.getElem?_append_right (by omega),Nat.add_sub_cancel_left,List.getElem?_append_left (by omega),List.getElem?_eq_getElem]
   ·obtain ⟨i,rfl⟩:∃ i,j = pre.length + (xs.length + i):=⟨j - pre.length - xs.length,by omega⟩
    rw [hhi _ (by omega),List.getElem?_toArray,List.getElem?_append_right (by omega),List.getElem?_append_right (by omega),Nat.add_sub_cancel_left,List.getElem?_append_right (by omega),List.getElem?_append_right (by omega),hl]
    congr 1
    omega
 rw [hc] at e'
 simpa using e'
theorem results_row_tmp {P:Program} {fn:Func} {p u:Tmp} {ty:TypeId} (h:fn.results = #[.cell p ty,.tmp u]) (tmps:Array Value) (w:World) (g:Nat) (t:TypeId) (cs:Array Value) (fr:Nat × Nat) (d:TypeDesc) (v:Value)
  (hp:tmps.getD p undef = .pointer (some ⟨g,0,none⟩)) (hv:tmps.getD u undef = v) (hg:w.heap[g]? = some (.cells cs t fr))
  (hu:P.underlying ty = some d) (hd:(match d with | .struct _ | .array _ _ => true | _ => false) = true) (hi:(P.info? ty).map (·.size) = some cs.size) :
  (results fn tmps).run P w = .ok (.tuple #[.agg cs,v]) w:=by
 rw [results_cell_tmp h,hp,hv]
 simp [asAddr,run_loadVar_row w g t ty cs fr d hg hu hd hi]
theorem results_row_tmp2 {P:Program} {fn:Func} {p u u2:Tmp} {ty:TypeId} (h:fn.results = #[.cell p ty,.tmp u,.tmp u2]) (tmps:Array Value) (w:World) (g:Nat) (t:TypeId) (cs:Array Value) (fr:Nat × Nat) (d:TypeDesc) (v v2:Value)
  (hp:tmps.getD p undef = .pointer (some ⟨g,0,none⟩)) (hv:tmps.getD u undef = v) (hv2:tmps.getD u2 undef = v2) (hg:w.heap[g]? = some (.cells cs t fr))
  (hu:P.underlying ty = some d) (hd:(match d with | .struct _ | .array _ _ => true | _ => false) = true) (hi:(P.info? ty).map (·.size) = some cs.size) :
  (results fn tmps).run P w = .ok (.tuple #[.agg cs,v,v2]) w:=by
 have hp':tmps[p]?.getD undef = .pointer (some ⟨g,0,none⟩):=by simpa using hp
 have hv':tmps[u]?.getD undef = v:=by simpa using hv
 have hv2':tmps[u2]?.getD undef = v2:=by simpa using hv2
 simp [results,h,hp',hv',hv2',asAddr,run_loadVar_row w g t ty cs fr d hg hu hd hi]
structure PlOf (W:World) (base:Nat) (w h:Int) (l:List Px) (n i:Nat) (p:Pln):Prop where
 ew:p.w = w
 eh:p.h = h
 es:p.st = w
 en:p.n = n
 ec:p.c = n
 ex:p.xs = cmpL l i
 own:W.ownsRow base 27 1 (.slice p.A n n) n (smp (cmpL l i))
theorem PlOf.bel {W W':World} {base:Nat} {w h:Int} {l:List Px} {n i:Nat} {p:Pln} (H:PlOf W base w h l n i p) (hb:Bel W W'):PlOf W' base w h l n i p:=⟨H.ew,H.eh,H.es,H.en,H.ec,H.ex,own_ext H.own hb⟩
structure ImOf (W:World) (base:Nat) (w h:Int) (l:List Px) (n:Nat) (m:Img):Prop where
 ew:m.w = w
 eh:m.h = h
 es:m.solid = false
 ec:m.col = pxz
 pl:∀ i,i < 5 → PlOf W base w h l n i (m.pl i)
theorem ImOf.bel {W W':World} {base:Nat} {w h:Int} {l:List Px} {n:Nat} {m:Img} (H:ImOf W base w h l n m) (hb:Bel W W'):ImOf W' base w h l n m:=⟨H.ew,H.eh,H.es,H.ec,fun i hi => (H.pl i hi).bel hb⟩
theorem PlOf.In {W:World} {base:Nat} {w h:Int} {l:List Px} {n i:Nat} {p:Pln} (H:PlOf W base w h l n i p) (hn:n ≤ 1000000):p.In W:=by
 obtain ⟨h1,h2,h3,h4,h5,h6,h7⟩:=H
 refine ⟨by rw [h4]; exact hn,?_⟩
 rw [h4,h6]
 exact own_sl' h7
theorem ImOf.In {W:World} {base:Nat} {w h:Int} {l:List Px} {n:Nat} {m:Img} (H:ImOf W base w h l n m) (hn:n ≤ 1000000):m.In W :=
 ⟨(H.pl 0 (by decide)).In hn,(H.pl 1 (by decide)).In hn,(H.pl 2 (by decide)).In hn,(H.pl 3 (by decide)).In hn,(H.pl 4 (by decide)).In hn⟩
def Img.setPl (m:Img) (k:Nat) (p:Pln):Img :=
 ⟨m.w,m.h,m.solid,m.col,if k = 0 then p else m.p0,if k = 1 then p else m.p1,if k = 2 then p else m.p2,if k = 3 then p else m.p3,if k = 4 then p else m.p4⟩
theorem setPl_same (m:Img) (k:Nat) (hk:k < 5) (p:Pln):(m.setPl k p).pl k = p:=by
 have h:k = 0 ∨ k = 1 ∨ k = 2 ∨ k = 3 ∨ k = 4:=by omega
 rcases h with rfl | rfl | rfl | rfl | rfl <;> rfl
theorem setPl_other (m:Img) (k i:Nat) (hi:i < 5) (hk:i ≠ k) (p:Pln):(m.setPl k p).pl i = m.pl i:=by
 have h:i = 0 ∨ i = 1 ∨ i = 2 ∨ i = 3 ∨ i = 4:=by omega
 rcases h with rfl | rfl | rfl | rfl | rfl
 all_goals (show (if k = _ then p else _) = _; rw [if_neg (fun e => hk e.symm)]; rfl)
theorem pl_one (p:Pln):∀ u ∈ p.cs,u.oneCell' = true:=by
 intro u hu
 simp only [Pln.cs,List.mem_cons,List.not_mem_nil,or_false] at hu
 rcases hu with rfl | rfl | rfl | rfl <;> rfl
def zPl:Pln:=⟨0,0,0,none,0,0,[]⟩
theorem tlVOf0 {p:Prop} (h:p:=by
  have H:=(HPL.out i (by omega)).bel HB.out
  exact ⟨H.ew,H.eh,H.es,H.en,H.ec,H.ex,own_upd H.own hU3 (own_ne_heap H.own eM2 (by decide))⟩):p:=h
theorem tlVOf1 {p:Prop} (h:p:=by
  rw [setPl_same _ _ (by decide)]
  exact ⟨rfl,rfl,rfl,rfl,rfl,rfl,own_upd HOW.out hU3 (by simp [Value.ownBlock]; omega)⟩):p:=h
set_option maxHeartbeats 8000000 in
theorem of_call (iw ih:Int) (w1:1 ≤ iw) (w2:iw ≤ 1000) (h1:1 ≤ ih) (h2:ih ≤ 1000) (n:Nat) (hn:iw * ih = n) (n0:1 ≤ n) (n1:n ≤ 1000) (l:List Px) (hlen:l.length = n) (A:Option Addr) (c:Nat) (w:World) (hl:Sl w 5 n A (pxs l)) :
  Calls Tryz.prog 35 #[.int .i64 iw,.int .i64 ih,.slice A n c] w fun e w' => ∃ m:Img,e = .returned (.tuple #[m.v,.bool true]) ∧ ImOf w' w.heap.size iw ih l n m ∧ Bel w w':=by
 have hS:=hd_ (fun V => calls_bs (isize_call iw ih V))
 have hsz:sizeB iw ih = true:=sizeB_iff.2 ⟨w1,h1,by rw [hn]; omega⟩
 rw [hsz] at hS
 have hwr:IntKind.i64.wrap (iw * ih) = n:=by rw [hn]; exact wrap_i64 _ (by omega) (by omega)
 have hmk:=fun w => run_make_row' (P:=Tryz.prog) 41 27 (.int .u16 0) 2 Tryz.underlying41 (by kernel_rfl) rfl .i64 .i64 n (by omega) (by omega) w
 have HL:=hd_ hl
 have HLEN:=hd_ hlen
 clear hsz hl hlen hn
 go_enter Tryz.func35,Tryz.ntmps35
 go_upto_region 1 with fail
 refine at_world (fun V => Bel w V ∧ V.heap[w.heap.size]? = some (.cells #[.int .i64 0,.int .i64 0,.bool false,.int .u16 0,.int .u16 0,.int .u16 0,.int .u16 0,.int .u16 0,.int .i64 0,.int .i64 0,.int .i64 0,.slice none 0 0,.int .i64 0,.int .i64 0,.int .i64 0,.slice none 0 0,.int .i64 0,.int .i64 0,.int .i64 0,.slice none 0 0,.int .i64 0,.int .i64 0,.int .i64 0,.slice none 0 0,.int .i64 0,.int .i64 0,.int .i64 0,.slice none 0 0] 46)) ⟨(Bel.refl w).al _,at_new (by first | rfl | simp)⟩ ?_
 rintro V ⟨hX,eR⟩
 have Rs:=lt_of_heap eR
 have fR:=frozA eR
 go_upto_region 3 with (first | (go_at_call 62; (with_reducible refine (hS.out _).mono ?_); rintro e w1 ⟨rfl,hb⟩; replace hX:=hX.trans hb; replace eR:=hb.heap eR; clear Rs fR; have Rs:=lt_of_heap eR; have fR:=frozA eR; clear hb) | fail)
 have HX1:=hd_ hX
 have ER1:=hd_ eR
 have hg8:w.heap.size < w1.heap.size:=lt_of_heap eR
 clear hX eR Rs fR
 go_upto_region 4 with (first | ((with_reducible show wpList _ _ _ (⟨none,.store _ _ _,_,_,_,_⟩ :: _) _ _); refine wpList_st (n:=0) (g:=w1.heap.size) (cells:=(⟨iw,ih,false,pxz,zPl,zPl,zPl,zPl,zPl⟩:Img).cs) rfl rfl rfl rfl (at_new rfl) rfl (by kernel_rfl) (im_one _) ?_; intro Y eM hU; have hX:=hU.bel (HX1.out.al _) (Nat.le_of_lt hg8); have eR:=hU.heap (at_old ER1.out) (by omega)) | fail)
 obtain ⟨T8,hT8⟩:∃ T8,T8 = w1.heap.size:=⟨_,rfl⟩
 rw [← hT8] at eM hg8 ⊢
 have HX:=hd_ hX
 have HM:=hd_ eM
 have HR:=hd_ eR
 clear eM eR hX hT8 HX1 ER1
 go_wp2_with fail
 go_loopg [29] 5 (fun gk s29 wr => ∃ (k:Nat) (m:Img),k + gk = 5 ∧ s29 = .int .i64 k ∧ Bel w wr ∧ wr.heap[w.heap.size]? = some (.cells #[.int .i64 0,.int .i64 0,.bool false,.int .u16 0,.int .u16 0,.int .u16 0,.int .u16 0,.int .u16 0,.int .i64 0,.int .i64 0,.int .i64 0,.slice none 0 0,.int .i64 0,.int .i64 0,.int .i64 0,.slice none 0 0,.int .i64 0,.int .i64 0,.int .i64 0,.slice none 0 0,.int .i64 0,.int .i64 0,.int .i64 0,.slice none 0 0,.int .i64 0,.int .i64 0,.int .i64 0,.slice none 0 0] 46) ∧ wr.heap[T8]? = some (oIm m) ∧ m.w = iw ∧ m.h = ih ∧ m.solid = false ∧ m.col = pxz ∧ ∀ i,i < k → PlOf wr w.heap.size iw ih l n i (m.pl i))
 case atStart => exact ⟨0,⟨iw,ih,false,pxz,zPl,zPl,zPl,zPl,zPl⟩,rfl,rfl,HX.out,HR.out,HM.out,rfl,rfl,rfl,rfl,fun i hi => absurd hi (Nat.not_lt_zero _)⟩
 case round =>
  obtain ⟨k,m,hgk,rfl,hX,eR,eM,m1,m2,m3,m4,hpl⟩:=hrel
  obtain ⟨w8,rfl⟩:∃ W:World,W = wr:=⟨_,rfl⟩
  clear HX HM HR
  by_cases hlt:k < 5
  case neg =>
   obtain rfl:k = 5:=by omega
   have HIM:=hd_ (show ImOf w8 w.heap.size iw ih l n m from ⟨m1,m2,m3,m4,hpl⟩)
   have hX0:=hd_ hX
   have hld:=img_ld eM
   clear hpl
   go_wp2_with (first | ((with_reducible show wpList _ _ _ (⟨some 71,_,_,_,_,_⟩ :: _) _ _); refine wpList_ld rfl rfl rfl (hld) ?_) | ((with_reducible show wpList _ _ _ (⟨none,.store _ _ _,_,_,_,_⟩ :: _) _ _); refine wpList_st (n:=0) (g:=w.heap.size) (cells:=m.cs) rfl rfl rfl rfl eR rfl (by kernel_rfl) (im_one m) ?_; intro W6 eR6 hU6; have hX6:=hU6.bel hX0.out (Nat.le_refl _)) | fail)
   refine bodyPost_ret (v:=.tuple #[m.v,.bool true]) (results_row_tmp (fn:=Tryz.f35) rfl _ _ w.heap.size 46 m.cs.toArray (0,0) _ _ rfl rfl eR6 Tryz.underlying46 rfl (by kernel_rfl)) rfl ⟨m,rfl,?_,hX6⟩
   exact ⟨m1,m2,m3,m4,fun i hi => let H:=HIM.out.pl i hi; ⟨H.ew,H.eh,H.es,H.en,H.ec,H.ex,own_upd H.own hU6 (own_ne_heap H.own eR (by decide))⟩⟩
  case pos =>
   have hd:decide ((k:Int) < 5) = true:=decide_eq_true (by omega)
   have hmk1:=hmk w8
   have hidx:=fun (p:Px) (W:World) => idx_c5 p k hlt W
   have HPL:=hd_ hpl
   have HRM:=hd_ (And.intro hX (And.intro eR eM))
   have hg0:=lt_of_heap eM
   clear hpl hmk hX eR eM
   go_wp2_with fail
   obtain ⟨g8,rfl⟩:∃ x:Nat,x = gk:=⟨_,rfl⟩
   go_loopg [37] n (fun gk s37 wr => ∃ j:Nat,j + gk = n ∧ s37 = .int .i64 j ∧ Bel w8 wr ∧ wr.heap[w8.heap.size]? = some (.cells (smp (upto 0 (cmpL l k) j)).toArray 27))
   case atStart =>
    refine ⟨0,by omega,rfl,(Bel.refl w8).al _,?_⟩
    rw [upto_zero,cmpL_len,HLEN.out]
    refine (at_new rfl).trans ?_
    rw [made_one]
    simp [smp]
   case round =>
    obtain ⟨j,hgk2,rfl,hB,eQ⟩:=hrel
    clear hmk1
    by_cases hj:j < n
    case pos =>
     have hd2:decide ((j:Int) < (n:Int)) = true:=decide_eq_true (by omega)
     obtain ⟨p,hp⟩:∃ p,l[j]? = some p:=⟨l[j]'(by have:=HLEN.out; omega),List.getElem?_eq_getElem _⟩
     obtain ⟨g,off,rfl,d0,d1,d2,d3,d4⟩:=(HL.out.bel (HRM.out.1.trans hB)).px hp hj
     have HP:=hd_ (show (cmpL l k)[j]? = some (p.cmp k) by unfold cmpL; rw [List.getElem?_map,hp]; rfl)
     have hjl:j < (upto 0 (cmpL l k) j).length:=by
      have:=HLEN.out
      have:=cmpL_len l k
      unfold upto
      rw [List.length_append,List.length_take,List.length_replicate]
      omega
     go_upto_region 11 with fail
     refine at_world (fun Y => Bel wr Y ∧ Y.heap[wr.heap.size]? = some (.cells #[.int .u16 p.x,.int .u16 p.y,.int .u16 p.z,.int .u16 p.a,.int .u16 p.f] 32)) ⟨(Bel.refl wr).al _,at_new (by first | rfl | simp)⟩ ?_
     clear d0 d1 d2 d3 d4 hd2
     rintro Y ⟨hY,eO⟩
     have hidp:=hidx p
     have eQ2:=hY.heap eQ
     have kQ:=cell_of eQ2 (smp_at (List.getElem?_eq_getElem hjl))
     have fQ:=frozA eQ2
     have lQ:=lt_of_heap eQ2
     have O_0:=cq0 eO rfl
     have O_1:=cq1 eO rfl
     have O_2:=cq2 eO rfl
     have O_3:=cq3 eO rfl
     have O_4:=cq4 eO rfl
     have HB:=hd_ (hB.trans hY)
     have HEQ:=hd_ eQ2
     clear eO hB hY eQ eQ2 hidx hp
     go_wp2_with fail
     go_roundg (gk - 1)
     case measure => omega
     case rel =>
      have h:=heap_set (i:=j) (.int .u16 (p.cmp k)) HEQ.out
      rw [smp_set,upto_set _ _ _ _ HP.out] at h
      exact ⟨j + 1,by omega,by go_num,HB.out.setCell (by omega) _,h⟩
    case neg =>
     obtain rfl:j = n:=by omega
     have hd2:decide ((j:Int) < (j:Int)) = false:=decide_eq_false (by omega)
     rw [upto_all _ _ (by rw [cmpL_len,HLEN.out]; exact Nat.le_refl _)] at eQ
     have hown:=own_smp (base:=w.heap.size) eQ (by rw [cmpL_len,HLEN.out]) (by have:=HRM.out.1.size'; omega) (by unfold maxLen; omega)
     have HOW:=hd_ hown
     have HB:=hd_ hB
     have eM2:=hB.heap HRM.out.2.2
     have HR2:=hd_ (hB.heap HRM.out.2.1)
     have lM:=lt_of_heap eM2
     clear hown hB eQ
     have hk:k = 0 ∨ k = 1 ∨ k = 2 ∨ k = 3 ∨ k = 4:=by omega
     rcases hk with rfl | rfl | rfl | rfl | rfl
     ·go_wp2_with (first | ((with_reducible show wpList _ _ _ (⟨none,.store _ _ _,_,_,_,_⟩ :: _) _ _); refine wpList_stp (g:=T8) (o:=8) [.int .i64 m.w,.int .i64 m.h,.bool m.solid,.int .u16 m.col.x,.int .u16 m.col.y,.int .u16 m.col.z,.int .u16 m.col.a,.int .u16 m.col.f] [.int .i64 m.p0.w,.int .i64 m.p0.h,.int .i64 m.p0.st,.slice m.p0.A m.p0.n m.p0.c] [.int .i64 m.p1.w,.int .i64 m.p1.h,.int .i64 m.p1.st,.slice m.p1.A m.p1.n m.p1.c,.int .i64 m.p2.w,.int .i64 m.p2.h,.int .i64 m.p2.st,.slice m.p2.A m.p2.n m.p2.c,.int .i64 m.p3.w,.int .i64 m.p3.h,.int .i64 m.p3.st,.slice m.p3.A m.p3.n m.p3.c,.int .i64 m.p4.w,.int .i64 m.p4.h,.int .i64 m.p4.st,.slice m.p4.A m.p4.n m.p4.c] (⟨iw,ih,iw,some ⟨w8.heap.size,0,none⟩,j,j,cmpL l 0⟩:Pln).cs rfl rfl rfl rfl eM2 rfl rfl (by kernel_rfl) (pl_one _) ?_; intro Y3 eM3 hU3) | fail)
      go_roundg (g8 - 1)
      case measure => omega
      case rel =>
       have hB3:=hU3.bel (HRM.out.1.trans HB.out) (by omega)
       refine ⟨1,m.setPl 0 (⟨iw,ih,iw,some ⟨w8.heap.size,0,none⟩,j,j,cmpL l 0⟩:Pln),by omega,by go_num,hB3,hU3.heap HR2.out (by omega),eM3,m1,m2,m3,m4,fun i hi => ?_⟩
       by_cases hik:i = 0
       ·subst hik
        exact tlVOf1
       ·rw [setPl_other _ _ _ (by omega) hik]
        exact tlVOf0
     ·go_wp2_with (first | ((with_reducible show wpList _ _ _ (⟨none,.store _ _ _,_,_,_,_⟩ :: _) _ _); refine wpList_stp (g:=T8) (o:=12) [.int .i64 m.w,.int .i64 m.h,.bool m.solid,.int .u16 m.col.x,.int .u16 m.col.y,.int .u16 m.col.z,.int .u16 m.col.a,.int .u16 m.col.f,.int .i64 m.p0.w,.int .i64 m.p0.h,.int .i64 m.p0.st,.slice m.p0.A m.p0.n m.p0.c] [.int .i64 m.p1.w,.int .i64 m.p1.h,.int .i64 m.p1.st,.slice m.p1.A m.p1.n m.p1.c] [.int .i64 m.p2.w,.int .i64 m.p2.h,.int .i64 m.p2.st,.slice m.p2.A m.p2.n m.p2.c,.int .i64 m.p3.w,.int .i64 m.p3.h,.int .i64 m.p3.st,.slice m.p3.A m.p3.n m.p3.c,.int .i64 m.p4.w,.int .i64 m.p4.h,.int .i64 m.p4.st,.slice m.p4.A m.p4.n m.p4.c] (⟨iw,ih,iw,some ⟨w8.heap.size,0,none⟩,j,j,cmpL l 1⟩:Pln).cs rfl rfl rfl rfl eM2 rfl rfl (by kernel_rfl) (pl_one _) ?_; intro Y3 eM3 hU3) | fail)
      go_roundg (g8 - 1)
      case measure => omega
      case rel =>
       have hB3:=hU3.bel (HRM.out.1.trans HB.out) (by omega)
       refine ⟨2,m.setPl 1 (⟨iw,ih,iw,some ⟨w8.heap.size,0,none⟩,j,j,cmpL l 1⟩:Pln),by omega,by go_num,hB3,hU3.heap HR2.out (by omega),eM3,m1,m2,m3,m4,fun i hi => ?_⟩
       by_cases hik:i = 1
       ·subst hik
        exact tlVOf1
       ·rw [setPl_other _ _ _ (by omega) hik]
        exact tlVOf0
     ·go_wp2_with (first | ((with_reducible show wpList _ _ _ (⟨none,.store _ _ _,_,_,_,_⟩ :: _) _ _); refine wpList_stp (g:=T8) (o:=16) [.int .i64 m.w,.int .i64 m.h,.bool m.solid,.int .u16 m.col.x,.int .u16 m.col.y,.int .u16 m.col.z,.int .u16 m.col.a,.int .u16 m.col.f,.int .i64 m.p0.w,.int .i64 m.p0.h,.int .i64 m.p0.st,.slice m.p0.A m.p0.n m.p0.c,.int .i64 m.p1.w,.int .i64 m.p1.h,.int .i64 m.p1.st,.slice m.p1.A m.p1.n m.p1.c] [.int .i64 m.p2.w,.int .i64 m.p2.h,.int .i64 m.p2.st,.slice m.p2.A m.p2.n m.p2.c] [.int .i64 m.p3.w,.int .i64 m.p3.h,.int .i64 m.p3.st,.slice m.p3.A m.p3.n m.p3.c,.int .i64 m.p4.w,.int .i64 m.p4.h,.int .i64 m.p4.st,.slice m.p4.A m.p4.n m.p4.c] (⟨iw,ih,iw,some ⟨w8.heap.size,0,none⟩,j,j,cmpL l 2⟩:Pln).cs rfl rfl rfl rfl eM2 rfl rfl (by kernel_rfl) (pl_one _) ?_; intro Y3 eM3 hU3) | fail)
      go_roundg (g8 - 1)
      case measure => omega
      case rel =>
       have hB3:=hU3.bel (HRM.out.1.trans HB.out) (by omega)
       refine ⟨3,m.setPl 2 (⟨iw,ih,iw,some ⟨w8.heap.size,0,none⟩,j,j,cmpL l 2⟩:Pln),by omega,by go_num,hB3,hU3.heap HR2.out (by omega),eM3,m1,m2,m3,m4,fun i hi => ?_⟩
       by_cases hik:i = 2
       ·subst hik
        exact tlVOf1
       ·rw [setPl_other _ _ _ (by omega) hik]
        exact tlVOf0
     ·go_wp2_with (first | ((with_reducible show wpList _ _ _ (⟨none,.store _ _ _,_,_,_,_⟩ :: _) _ _); refine wpList_stp (g:=T8) (o:=20) [.int .i64 m.w,.int .i64 m.h,.bool m.solid,.int .u16 m.col.x,.int .u16 m.col.y,.int .u16 m.col.z,.int .u16 m.col.a,.int .u16 m.col.f,.int .i64 m.p0.w,.int .i64 m.p0.h,.int .i64 m.p0.st,.slice m.p0.A m.p0.n m.p0.c,.int .i64 m.p1.w,.int .i64 m.p1.h,.int .i64 m.p1.st,.slice m.p1.A m.p1.n m.p1.c,.int .i64 m.p2.w,.int .i64 m.p2.h,.int .i64 m.p2.st,.slice m.p2.A m.p2.n m.p2.c] [.int .i64 m.p3.w,.int .i64 m.p3.h,.int .i64 m.p3.st,.slice m.p3.A m.p3.n m.p3.c] [.int .i64 m.p4.w,.int .i64 m.p4.h,.int .i64 m.p4.st,.slice m.p4.A m.p4.n m.p4.c] (⟨iw,ih,iw,some ⟨w8.heap.size,0,none⟩,j,j,cmpL l 3⟩:Pln).cs rfl rfl rfl rfl eM2 rfl rfl (by kernel_rfl) (pl_one _) ?_; intro Y3 eM3 hU3) | fail)
      go_roundg (g8 - 1)
      case measure => omega
      case rel =>
       have hB3:=hU3.bel (HRM.out.1.trans HB.out) (by omega)
       refine ⟨4,m.setPl 3 (⟨iw,ih,iw,some ⟨w8.heap.size,0,none⟩,j,j,cmpL l 3⟩:Pln),by omega,by go_num,hB3,hU3.heap HR2.out (by omega),eM3,m1,m2,m3,m4,fun i hi => ?_⟩
       by_cases hik:i = 3
       ·subst hik
        exact tlVOf1
       ·rw [setPl_other _ _ _ (by omega) hik]
        exact tlVOf0
     ·go_wp2_with (first | ((with_reducible show wpList _ _ _ (⟨none,.store _ _ _,_,_,_,_⟩ :: _) _ _); refine wpList_stp (g:=T8) (o:=24) [.int .i64 m.w,.int .i64 m.h,.bool m.solid,.int .u16 m.col.x,.int .u16 m.col.y,.int .u16 m.col.z,.int .u16 m.col.a,.int .u16 m.col.f,.int .i64 m.p0.w,.int .i64 m.p0.h,.int .i64 m.p0.st,.slice m.p0.A m.p0.n m.p0.c,.int .i64 m.p1.w,.int .i64 m.p1.h,.int .i64 m.p1.st,.slice m.p1.A m.p1.n m.p1.c,.int .i64 m.p2.w,.int .i64 m.p2.h,.int .i64 m.p2.st,.slice m.p2.A m.p2.n m.p2.c,.int .i64 m.p3.w,.int .i64 m.p3.h,.int .i64 m.p3.st,.slice m.p3.A m.p3.n m.p3.c] [.int .i64 m.p4.w,.int .i64 m.p4.h,.int .i64 m.p4.st,.slice m.p4.A m.p4.n m.p4.c] [] (⟨iw,ih,iw,some ⟨w8.heap.size,0,none⟩,j,j,cmpL l 4⟩:Pln).cs rfl rfl rfl rfl eM2 rfl rfl (by kernel_rfl) (pl_one _) ?_; intro Y3 eM3 hU3) | fail)
      go_roundg (g8 - 1)
      case measure => omega
      case rel =>
       have hB3:=hU3.bel (HRM.out.1.trans HB.out) (by omega)
       refine ⟨5,m.setPl 4 (⟨iw,ih,iw,some ⟨w8.heap.size,0,none⟩,j,j,cmpL l 4⟩:Pln),by omega,by go_num,hB3,hU3.heap HR2.out (by omega),eM3,m1,m2,m3,m4,fun i hi => ?_⟩
       by_cases hik:i = 4
       ·subst hik
        exact tlVOf1
       ·rw [setPl_other _ _ _ (by omega) hik]
        exact tlVOf0
theorem run_copy_mid {P:Program} (w:World) (dT sT ty elem:TypeId) (k g o dLen dCap:Nat) (a:Addr) (sLen sCap:Nat) (cs:List Value) (hu:P.underlying dT = some (.slice elem)) (hs:(P.info? elem).map (·.size) = some k) (hn:cs.length = Nat.min sLen dLen * k)
  (hsrc:∀ j v,cs[j]? = some v → w.cell? (a.add j) = some v) (hc:∀ j,j < cs.length → (w.cell? ⟨g,o + j,none⟩).isSome = true) (hf:∀ j,j < cs.length → w.frozen? ⟨g,o + j,none⟩ = false) (h1:∀ v ∈ cs,v.oneCell' = true) :
  (Builtin.copy_ #[dT,sT] ty #[.slice (some ⟨g,o,none⟩) dLen dCap,.slice (some a) sLen sCap]).run P w = .ok (goInt (Nat.min sLen dLen)) (w.setCells g o cs):=by
 have hst:=run_storeCells_cells (P:=P) g o cs 0 w (by simpa using hc) (by simpa using hf) h1
 cases hq:P.info? elem with
 | none => simp [hq] at hs
 | some i =>
  have hi:i.size = k:=by simpa [hq] using hs
  have hl:=run_firstCells_some (P:=P) (w:=w) k (Nat.min sLen dLen) a sLen sCap cs hn hsrc
  simp only [Nat.add_zero] at hst
  simp [Builtin.copy_,run_underlying hu,Builtin.lenOf,sizeOf,typeInfo,hq,hi,hl,hst]
theorem wpList_copy_mid {P:Program} {w:World} {ops:Array Oper} {rest:List Oper} {op:Oper} {a:Act} {Q:Exit → Act → World → Prop} (hgd:op.guard = none) (d s:Operand) (dT sT:TypeId)
  (ho:op.op = .call { callee:=.builtin .copy,args:=#[d,s],argTypes:=#[dT,sT] }) (elem:TypeId) (k:Nat) (hu:P.underlying dT = some (.slice elem)) (hs:(P.info? elem).map (·.size) = some k)
  (g o dLen dCap:Nat) (ad:Addr) (sLen sCap:Nat) (hd:a.eval d = .slice (some ⟨g,o,none⟩) dLen dCap) (hx:a.eval s = .slice (some ad) sLen sCap) (cs:List Value) (hn:cs.length = Nat.min sLen dLen * k)
  (hsrc:∀ j v,cs[j]? = some v → w.cell? (ad.add j) = some v) (hc:∀ j,j < cs.length → (w.cell? ⟨g,o + j,none⟩).isSome = true) (hf:∀ j,j < cs.length → w.frozen? ⟨g,o + j,none⟩ = false) (h1:∀ v ∈ cs,v.oneCell' = true)
  (h:wpList P ops Q rest (a.put op.dst (goInt (Nat.min sLen dLen))) (w.setCells g o cs)):wpList P ops Q (op :: rest) a w:=by
 refine wpList_plain hgd fun K hK => ?_
 have hrun:=run_copy_mid (P:=P) w dT sT op.type elem k g o dLen dCap ad sLen sCap cs hu hs hn hsrc hc hf h1
 unfold Oper.wp
 simp [execOp,ho,resolve,invoke,builtin,hd,hx,hrun,Result.andThen]
 exact hK _ _ h
theorem setCells_append (g:Nat) (xs ys:List Value):∀ (o:Nat) (w:World),w.setCells g o (xs ++ ys) = (w.setCells g o xs).setCells g (o + xs.length) ys:=by
 induction xs with
 | nil => exact fun o w => rfl
 | cons x xs ih =>
  intro o w
  show (w.setCell ⟨g,o,none⟩ x).setCells g (o + 1) (xs ++ ys) = ((w.setCell ⟨g,o,none⟩ x).setCells g (o + 1) xs).setCells g (o + (xs.length + 1)) ys
  rw [ih,show o + 1 + xs.length = o + (xs.length + 1) by omega]
theorem seg_step {α:Type} (l:List α) (k:Nat) (v:α) (rest:List α) (hk:k + (rest.length + 1) ≤ l.length) :
  (l.set k v).take (k + 1) ++ (rest ++ (l.set k v).drop (k + 1 + rest.length)) = l.take k ++ ((v :: rest) ++ l.drop (k + (rest.length + 1))):=by
 have h1:(l.set k v).take (k + 1) = l.take k ++ [v]:=by
  apply List.ext_getElem?
  intro j
  simp only [List.getElem?_take,List.getElem?_set,List.getElem?_append,List.length_take]
  by_cases hj:j < k
  ·have:min k l.length = k:=by omega
   simp [hj,this,Nat.ne_of_gt hj]
   omega
  ·by_cases hj2:j = k
   ·subst hj2
    have:min j l.length = j:=by omega
    have hjl:j < l.length:=by omega
    simp [this,hjl]
   ·have:min k l.length = k:=by omega
    have h3:¬ j < k + 1:=by omega
    simp [hj,this,h3]
    omega
 have h2:(l.set k v).drop (k + 1 + rest.length) = l.drop (k + (rest.length + 1)):=by
  apply List.ext_getElem?
  intro j
  simp only [List.getElem?_drop,List.getElem?_set]
  have:¬ k = k + 1 + rest.length + j:=by omega
  simp [this]
  congr 1
  omega
 rw [h1,h2]
 simp
theorem own_seg {α:Type} {f:α → List Value} {base k n c g:Nat} {t:TypeId} (hf:∀ a,(f a).length = k) (seg:List α):∀ (o:Nat) (l:List α) (w:World),l.length = n → w.ownsRow base t k (.slice (some ⟨g,0,none⟩) n c) n (l.flatMap f) → o + seg.length ≤ n →
  (w.setCells g (o * k) (seg.flatMap f)).ownsRow base t k (.slice (some ⟨g,0,none⟩) n c) n ((l.take o ++ (seg ++ l.drop (o + seg.length))).flatMap f):=by
 induction seg with
 | nil =>
  intro o l w hl h ho
  simp only [List.flatMap_nil,List.nil_append,List.length_nil,Nat.add_zero,List.take_append_drop]
  exact h
 | cons a seg ih =>
  intro o l w hl h ho
  simp only [List.length_cons] at ho
  rw [List.flatMap_cons,setCells_append,hf,← Nat.succ_mul]
  have h1:=own_sets a hf h (show o < n by omega)
  have h2:=ih (o + 1) (l.set o a) _ (by rw [List.length_set,hl]) h1 (by omega)
  rw [seg_step l o a seg (by omega)] at h2
  simpa using h2
def imgG (wd ht:Nat) (g:Nat → Nat → Px):List Px:=(List.range ht).flatMap fun j => (List.range wd).map fun i => g j i
theorem flat_rows_len {α:Type} (wd ht:Nat) (r:Nat → List α) (h:∀ j,(r j).length = wd):((List.range ht).flatMap r).length = ht * wd:=by
 induction ht with
 | zero => simp
 | succ ht ih => rw [List.range_succ,List.flatMap_append,List.length_append,ih,Nat.succ_mul]; simp [h]
theorem flat_rows_get {α:Type} (wd ht:Nat) (r:Nat → List α) (h:∀ j,(r j).length = wd) {j i:Nat} (hj:j < ht) (hi:i < wd):((List.range ht).flatMap r)[j * wd + i]? = (r j)[i]?:=by
 induction ht with
 | zero => omega
 | succ ht ih =>
  rw [List.range_succ,List.flatMap_append]
  have hl:=flat_rows_len wd ht r h
  by_cases hjt:j < ht
  ·have:(j + 1) * wd ≤ ht * wd:=Nat.mul_le_mul_right wd hjt
   rw [Nat.succ_mul] at this
   rw [List.getElem?_append_left (by rw [hl]; omega),ih hjt]
  ·obtain rfl:j = ht:=by omega
   rw [List.getElem?_append_right (by rw [hl]; omega),hl,Nat.add_sub_cancel_left]
   simp
theorem imgG_len (wd ht:Nat) (g:Nat → Nat → Px):(imgG wd ht g).length = ht * wd:=flat_rows_len wd ht _ (fun j => by simp)
theorem imgG_get (wd ht:Nat) (g:Nat → Nat → Px) {j i:Nat} (hj:j < ht) (hi:i < wd):(imgG wd ht g)[j * wd + i]? = some (g j i):=by
 unfold imgG
 rw [flat_rows_get wd ht _ (fun j => by simp) hj hi,List.getElem?_map,List.getElem?_range hi]
 rfl
theorem flatMapCongr {α β:Type} {l:List α} {f g:α → List β} (h:∀ a ∈ l,f a = g a):l.flatMap f = l.flatMap g:=by
 induction l with
 | nil => rfl
 | cons a l ih => rw [List.flatMap_cons,List.flatMap_cons,h a List.mem_cons_self,ih fun b hb => h b (List.mem_cons_of_mem _ hb)]
theorem imgG_ext {wd ht:Nat} {g g':Nat → Nat → Px} (h:∀ j i,j < ht → i < wd → g j i = g' j i):imgG wd ht g = imgG wd ht g':=by
 unfold imgG
 refine flatMapCongr fun j hj => ?_
 apply List.map_congr_left
 intro i hi
 exact h j i (List.mem_range.1 hj) (List.mem_range.1 hi)
theorem imgG_seg {wd ht:Nat} {g g':Nat → Nat → Px} {jj off:Nat} {seg:List Px} (hj:jj < ht) (ho:off + seg.length ≤ wd) (h1:∀ q p,seg[q]? = some p → g' jj (off + q) = p) (h2:∀ j i,j < ht → i < wd → ¬ (j = jj ∧ off ≤ i ∧ i < off + seg.length) → g' j i = g j i) :
  (imgG wd ht g).take (jj * wd + off) ++ (seg ++ (imgG wd ht g).drop (jj * wd + off + seg.length)) = imgG wd ht g':=by
 have hL:=imgG_len wd ht g
 have hjw:(jj + 1) * wd ≤ ht * wd:=Nat.mul_le_mul_right wd hj
 rw [Nat.succ_mul] at hjw
 have ht0:((imgG wd ht g).take (jj * wd + off)).length = jj * wd + off:=by rw [List.length_take,hL]; omega
 apply List.ext_getElem?
 intro q
 by_cases hq:q < ht * wd
 ·have hw0:0 < wd:=by
   rcases Nat.eq_zero_or_pos wd with h | h
   ·rw [h,Nat.mul_zero] at hq; omega
   ·exact h
  obtain ⟨j,i,hi,rfl⟩:∃ j i,i < wd ∧ q = j * wd + i:=⟨q / wd,q % wd,Nat.mod_lt _ hw0,by rw [Nat.mul_comm]; exact (Nat.div_add_mod q wd).symm⟩
  have hjh:j < ht:=by
   rcases Nat.lt_or_ge j ht with h | h
   ·exact h
   ·have:=Nat.mul_le_mul_right wd h; omega
  rw [imgG_get wd ht g' hjh hi]
  by_cases hin:j = jj ∧ off ≤ i ∧ i < off + seg.length
  ·obtain ⟨rfl,a,b⟩:=hin
   obtain ⟨q,rfl⟩:∃ q,i = off + q:=⟨i - off,by omega⟩
   rw [List.getElem?_append_right (by rw [ht0]; omega),ht0,show j * wd + (off + q) - (j * wd + off) = q by omega,List.getElem?_append_left (by omega)]
   have e:seg[q]? = some (seg[q]'(by omega)):=List.getElem?_eq_getElem _
   rw [e,h1 q _ e]
  ·rw [h2 j i hjh hi hin,← imgG_get wd ht g hjh hi]
   by_cases hlt:j * wd + i < jj * wd + off
   ·rw [List.getElem?_append_left (by rw [ht0]; exact hlt),List.getElem?_take,if_pos hlt]
   ·rw [List.getElem?_append_right (by rw [ht0]; omega),ht0]
    have hge:jj * wd + off + seg.length ≤ j * wd + i:=by
     rcases Nat.lt_trichotomy j jj with h | rfl | h
     ·have:=Nat.mul_le_mul_right wd (show j + 1 ≤ jj by omega)
      rw [Nat.succ_mul] at this
      omega
     ·omega
     ·have:=Nat.mul_le_mul_right wd (show jj + 1 ≤ j by omega)
      rw [Nat.succ_mul] at this
      omega
    rw [List.getElem?_append_right (by omega),List.getElem?_drop]
    congr 1
    omega
 ·rw [List.getElem?_eq_none (by rw [List.length_append,ht0,List.length_append,List.length_drop,hL]; omega),List.getElem?_eq_none (by rw [imgG_len]; omega)]
theorem ok_vd {m:Int} {p:Px} (h:Px.ok m p):p.vd m = true:=h.valid
theorem pxz_ok' {m:Int} (hm:0 ≤ m):Px.ok m ⟨0,0,0,0,0⟩:=⟨Int.le_refl _,Int.le_refl _,Int.le_refl _,Int.le_refl _,Int.le_refl _,Int.le_refl _,Int.le_refl _,hm⟩
theorem ImOf.form {W:World} {base:Nat} {w h:Int} {l:List Px} {n:Nat} {m:Img} (H:ImOf W base w h l n m) (w1:1 ≤ w) (h1:1 ≤ h) (hn:w * h = n) (n1:n ≤ 1000000):formB m = true:=by
 have hsz:sizeB m.w m.h = true:=sizeB_iff.2 ⟨by rw [H.ew]; exact w1,by rw [H.eh]; exact h1,by rw [H.ew,H.eh,hn]; omega⟩
 have hw:w ≤ n:=by
  have:=Int.mul_le_mul_of_nonneg_left h1 (show 0 ≤ w by omega)
  rw [hn] at this
  omega
 have hp:∀ i,i < 5 → okP m (m.pl i) = true:=fun i hi => by
  have P:=H.pl i hi
  unfold okP
  rw [H.es]
  simp only [Bool.false_eq_true,if_false,Bool.and_eq_true,decide_eq_true_eq]
  refine ⟨⟨?_,by rw [P.ew,H.ew]⟩,by rw [P.eh,H.eh]⟩
  unfold plB
  simp only [Bool.and_eq_true,decide_eq_true_eq]
  refine ⟨⟨⟨by rw [P.ew,P.eh,← H.ew,← H.eh]; exact hsz,by rw [P.ew,P.es]; exact Int.le_refl _⟩,by rw [P.es]; omega⟩,?_⟩
  rw [P.eh,P.es,P.ew,P.en,Int.sub_mul,Int.one_mul,Int.mul_comm h w,hn]
  omega
 unfold formB
 rw [hsz,H.es,H.ec]
 exact (pre_all (m:=m) (fun j hj => hp j hj))
theorem ImOf.get {W:World} {base:Nat} {w h:Int} {l:List Px} {n:Nat} {m:Img} (H:ImOf W base w h l n m) (w1:1 ≤ w) (hn:w * h = n) (hl:l.length = n) {x y:Int} (x0:0 ≤ x) (x1:x < w) (y0:0 ≤ y) (y1:y < h) :
  ∃ p,l[(y * w + x).toNat]? = some p ∧ pxF m x y = p:=by
 have hb:y * w + x < n:=by
  have:=Int.mul_le_mul_of_nonneg_right (show y ≤ h - 1 by omega) (show 0 ≤ w by omega)
  rw [Int.sub_mul,Int.one_mul,Int.mul_comm h w,hn] at this
  omega
 have h0:0 ≤ y * w + x:=by
  have:=Int.mul_nonneg y0 (show 0 ≤ w by omega)
  omega
 obtain ⟨p,hp⟩:∃ p,l[(y * w + x).toNat]? = some p:=⟨_,List.getElem?_eq_getElem (by omega)⟩
 refine ⟨p,hp,?_⟩
 have hc:∀ i,i < 5 → (m.pl i).at x y = p.cmp i:=fun i hi => by
  have P:=H.pl i hi
  unfold Pln.at
  rw [P.ex,P.es]
  unfold cmpL
  rw [List.getElem?_map,hp]
  rfl
 unfold pxF
 rw [H.es]
 simp only [Bool.false_eq_true,if_false]
 have c0:m.p0.at x y = p.x:=hc 0 (by decide)
 have c1:m.p1.at x y = p.y:=hc 1 (by decide)
 have c2:m.p2.at x y = p.z:=hc 2 (by decide)
 have c3:m.p3.at x y = p.a:=hc 3 (by decide)
 have c4:m.p4.at x y = p.f:=hc 4 (by decide)
 rw [c0,c1,c2,c3,c4]
theorem ImOf.px {W:World} {base:Nat} {w h:Int} {l:List Px} {n:Nat} {m:Img} {mx:Int} (H:ImOf W base w h l n m) (w1:1 ≤ w) (hn:w * h = n) (hl:l.length = n) (hm:0 ≤ mx) (hok:∀ p ∈ l,Px.ok mx p) (X Y:Int):Px.ok mx (atF m X Y):=by
 unfold atF
 by_cases hc:(formB m && inB m X Y) = true
 ·rw [if_pos hc]
  rw [Bool.and_eq_true] at hc
  obtain ⟨a,b,c,d⟩:=inB_iff.1 hc.2
  rw [H.ew] at b
  rw [H.eh] at d
  obtain ⟨p,hp,e⟩:=H.get w1 hn hl a b c d
  rw [e]
  exact hok p (List.mem_of_getElem? hp)
 ·rw [if_neg hc]
  exact pxz_ok' hm
theorem ImOf.ok {W:World} {base:Nat} {w h:Int} {l:List Px} {n:Nat} {m:Img} {mx:Int} (H:ImOf W base w h l n m) (w1:1 ≤ w) (h1:1 ≤ h) (hn:w * h = n) (n1:n ≤ 1000000) (hl:l.length = n) (hok:∀ p ∈ l,Px.ok mx p):validI m mx = 0:=by
 have hf:=H.form w1 h1 hn n1
 have hsh:shapeI m = 0:=by
  unfold shapeI
  rw [(form_parts hf).1,hf]
  rfl
 unfold validI
 rw [hsh,if_neg (by decide),H.es]
 simp only [Bool.false_eq_true,if_false]
 unfold codeV
 have hall:allV m mx (uptoP m.w.toNat m.h.toNat 0) = true:=by
  unfold allV
  rw [List.all_eq_true]
  intro p hp
  have hp':=hp
  unfold uptoP at hp'
  simp only [List.range_zero,List.map_nil,List.append_nil] at hp'
  obtain ⟨j,hj,h2⟩:=List.mem_flatMap.1 hp'
  obtain ⟨i,hi,rfl⟩:=List.mem_map.1 h2
  have hj2:=List.mem_range.1 hj
  have hi2:=List.mem_range.1 hi
  rw [H.ew] at hi2
  rw [H.eh] at hj2
  obtain ⟨q,hq,e⟩:=H.get w1 hn hl (x:=(i:Int)) (y:=(j:Int)) (by omega) (by omega) (by omega) (by omega)
  dsimp only
  rw [e]
  exact ok_vd (hok q (List.mem_of_getElem? hq))
 rw [hall]
 rfl
def solidF (w h:Int) (p:Px):Img:=⟨w,h,true,p,zPl,zPl,zPl,zPl,zPl⟩
theorem solid_In (W:World) (w h:Int) (p:Px):(solidF w h p).In W:=by
 have h0:Pln.In W zPl:=⟨by decide,rfl,fun hn => absurd hn (Nat.lt_irrefl 0)⟩
 exact ⟨h0,h0,h0,h0,h0⟩
theorem solid_form (w h:Int) (p:Px) (hs:sizeB w h = true):formB (solidF w h p) = true:=by
 unfold formB
 show (sizeB w h && _ && _) = true
 rw [hs]
 rfl
theorem solid_ok (w h:Int) (p:Px) (mx:Int) (hs:sizeB w h = true) (hp:Px.ok mx p):validI (solidF w h p) mx = 0:=by
 have hf:=solid_form w h p hs
 have hsh:shapeI (solidF w h p) = 0:=by
  unfold shapeI
  rw [hf]
  show (if sizeB w h then _ else _) = _
  rw [hs]
  rfl
 unfold validI
 rw [hsh,if_neg (by decide)]
 show (if true = true then (if p.vd mx = true then (0:Int) else 8) else _) = 0
 rw [if_pos rfl,ok_vd hp,if_pos rfl]
theorem solid_px (w h:Int) (p:Px) (mx:Int) (hm:0 ≤ mx) (hp:Px.ok mx p) (X Y:Int):Px.ok mx (atF (solidF w h p) X Y):=by
 unfold atF
 split
 ·exact hp
 ·exact pxz_ok' hm
section
variable {P:Program} {ops:Array Oper} {Q:Exit → Act → World → Prop} {md:Region.Mode} {S:World → Prop}
theorem C_firstU {c i:Nat} (U:List Nat) {oi:Oper} {v:Value} (hi:ops[i]? = some oi) (hcU:c ∈ U) (hw:∀ u ∈ U,∃ ou,ops[u]? = some ou ∧ ∃ e ∈ ou.after,Region.binds md e = true ∧ (e.on = i ∨ e.on ∈ U)) (hiU:i ∉ U) (hsel:∀ (j:Nat) (o:Oper) cs b,ops[j]? = some o → o.op ≠ .select cs b)
  (hQ:∀ p a w,Q (.panic p) (a.put oi.dst v) w → Q (.panic p) a w) :
  ∀ (fuel:Nat) (listed:Array Bool) (a:Act) (w:World),
   (∀ j oj,ops[j]? = some oj → j ≠ i → listed.getD j true = false → (∀ e ∈ oj.after,Region.binds md e = true → e.on ≠ i) → oi.apart ops oj = true) →
   i ∈ Region.ready md ops listed → (∀ u ∈ U,listed.getD u true = false) → YieldsIf P ops S oi v a → S w →
   wpAnyC P md ops Q c S fuel (listed.setIfInBounds i true) (a.put oi.dst v) w → wpAnyC P md ops Q c S (fuel + 1) listed a w:=by
 intro fuel
 induction fuel with
 | zero =>
  intro listed a w _ hr hul hy hS H
  refine ⟨fun h => (by rw [h] at hr; cases hr),fun j hj => ?_⟩
  by_cases hji:j = i
  ·subst hji
   exact hy.wpOp hi hS ⟨fun _ => hS,H⟩
  ·have h0:=ready_mono hj hji
   rw [H.1] at h0
   cases h0
 | succ fuel ih =>
  intro listed a w hfree hr hul hy hS H
  have hun:=(mem_ready.1 hr).1
  refine ⟨fun h => (by rw [h] at hr; cases hr),fun j hj => ?_⟩
  by_cases hji:j = i
  ·subst hji
   exact hy.wpOp hi hS ⟨fun _ => hS,H⟩
  ·obtain ⟨hjun,oj,hoj,hall⟩:=mem_ready.1 hj
   have hno:∀ e ∈ oj.after,Region.binds md e = true → e.on ≠ i:=fun e he hb heq => by
    have h1:=hall e he hb
    rw [heq,getD_both hun] at h1
    cases h1
   have hjU:j ∉ U:=fun hjU => by
    obtain ⟨ou,hou,e,he,hb,h⟩:=hw j hjU
    obtain rfl:=Option.some.inj (hoj.symm.trans hou)
    rcases h with h | h
    ·exact hno e he hb h
    ·have h1:=hall e he hb
     rw [getD_both (hul _ h)] at h1
     cases h1
   have hjc:j ≠ c:=fun e => hjU (e ▸ hcU)
   have hic:i ≠ c:=fun e => hiU (e ▸ hcU)
   have h2:=wpOp_putIf hoj (hfree j oj hoj hji hjun hno) (fun cs b => hsel i oi cs b hi) (fun cs b => hsel j oj cs b hoj) hQ hy (H.2 j (ready_mono hj hji))
   have hul2:∀ u ∈ U,(listed.setIfInBounds j true).getD u true = false:=fun u hu => by rw [getD_set_ne true (show j ≠ u from fun e => hjU (by rw [e]; exact hu))]; exact hul u hu
   have hcl3:((listed.setIfInBounds i true).setIfInBounds j true).getD c true = false:=by rw [getD_set_ne true hjc,getD_set_ne true hic]; exact hul c hcU
   refine wpOp_mono (fun a' w' h3 => ⟨fun _ => h3.2.1 hcl3,ih (listed.setIfInBounds j true) a' w' (fun k ok hk hki hku hnk => hfree k ok hk hki ?_ hnk) (ready_mono hr (Ne.symm hji)) hul2 h3.1 (h3.2.1 hcl3) ?_⟩) h2
   ·by_cases hjk:j = k
    ·subst hjk
     exact hjun
    ·rwa [getD_set_ne true hjk] at hku
   ·rw [Array.setIfInBounds_comm _ _ hji]
    exact h3.2.2
def chainB (md:Region.Mode) (ops:Array Oper) (U:List Nat) (i:Nat):Bool:=U.all fun u => match ops[u]? with
 | none => false
 | some ou => ou.after.any fun e => Region.binds md e && (e.on == i || U.contains e.on)
theorem chainB_spec {U:List Nat} {i:Nat} (h:chainB md ops U i = true):∀ u ∈ U,∃ ou,ops[u]? = some ou ∧ ∃ e ∈ ou.after,Region.binds md e = true ∧ (e.on = i ∨ e.on ∈ U):=fun u hu => by
 have h1:=List.all_eq_true.1 h u hu
 cases he:ops[u]? with
 | none => rw [he] at h1; cases h1
 | some ou =>
  rw [he] at h1
  obtain ⟨k,hk,hb⟩:=Array.any_eq_true.1 h1
  refine ⟨ou,rfl,ou.after[k],Array.getElem_mem hk,?_⟩
  simp only [Bool.and_eq_true,Bool.or_eq_true,beq_iff_eq,List.contains_iff_mem] at hb
  exact hb
theorem C_takeU {c i:Nat} (U:List Nat) {oi:Oper} {v:Value} {fuel:Nat} {listed:Array Bool} {a:Act} {w:World} (hi:ops[i]? = some oi) (hs:Region.noSelect ops = true) (hf:Region.free md ops listed i = true) (hr:(Region.ready md ops listed).contains i = true)
  (hch:(chainB md ops U i && U.contains c && !U.contains i && U.all fun u => !listed.getD u true) = true) (hQ:∀ p a w,Q (.panic p) (a.put oi.dst v) w → Q (.panic p) a w) (hS:S w) (hy:YieldsIf P ops S oi v a)
  (h:wpAnyC P md ops Q c S fuel (listed.setIfInBounds i true) (a.put oi.dst v) w):wpAnyC P md ops Q c S (fuel + 1) listed a w:=by
 simp only [Bool.and_eq_true,Bool.not_eq_true',List.all_eq_true] at hch
 obtain ⟨⟨⟨h1,h2⟩,h3⟩,h4⟩:=hch
 refine C_firstU U hi (by simpa using h2) (chainB_spec h1) (by simpa using h3) (Region.noSelect_spec hs) hQ fuel listed a w (Region.free_spec hi hf) (by simpa using hr) (fun u hu => by simpa using h4 u hu) hy hS h
theorem C_takeUa {c i:Nat} {oi:Oper} {v:Value} {fuel:Nat} {listed:Array Bool} {a:Act} {w:World} (U:List Nat) (hi:ops[i]? = some oi) (hS:S w) (hy:YieldsIf P ops S oi v a) (h:wpAnyC P md ops Q c S fuel (listed.setIfInBounds i true) (a.put oi.dst v) w) (hs:Region.noSelect ops = true:=by kernel_rfl) (hf:Region.free md ops listed i = true:=by kernel_rfl) (hr:(Region.ready md ops listed).contains i = true:=by kernel_rfl) (hch:(chainB md ops U i && U.contains c && !U.contains i && U.all fun u => !listed.getD u true) = true:=by kernel_rfl) (hQ:∀ p a w,Q (.panic p) (a.put oi.dst v) w → Q (.panic p) a w:=by exact fun _ _ _ h => h):wpAnyC P md ops Q c S (fuel + 1) listed a w:=C_takeU U hi hs hf hr hch hQ hS hy h
end
theorem half_own (x m:Int) (m0:1 ≤ m):halfI (x * m) m = x:=by
 unfold halfI
 rw [if_neg (by omega),Int.mul_emod_left,if_neg (by omega),Int.mul_ediv_cancel _ (by omega)]
theorem both_own (m:Int) (m0:1 ≤ m) (p:Px):bothF m m m p = p:=by
 unfold bothF
 simp only [half_own _ _ m0]
theorem rm_own {m c o:Int} (m0:1 ≤ m) (c0:0 ≤ c) (co:c ≤ o):rmI c 0 o m = c:=by
 unfold rmI
 rw [Int.mul_zero]
 split
 ·rename_i h
  rcases Int.lt_or_le 0 c with h1 | h1
  ·have:=Int.mul_pos (show 0 < m by omega) h1
   omega
  ·omega
 ·rw [Int.sub_zero,Int.mul_comm,half_own _ _ m0]
  omega
theorem res_own {m:Int} (m0:1 ≤ m) {p:Px} (hp:Px.ok m p):resF m ⟨p.x,p.y,p.z,p.a,p.a,p.f⟩ pxz = p:=by
 have hx:=hp.x0
 have hy:=hp.y0
 have hz:=hp.z0
 have ax:=hp.xa
 have ay:=hp.ya
 have az:=hp.za
 unfold resF
 show Px.mk (rmI p.x 0 p.a m) (rmI p.y 0 p.a m) (rmI p.z 0 p.a m) p.a p.f = p
 rw [rm_own m0 hx ax,rm_own m0 hy ay,rm_own m0 hz az]
theorem step_own {m:Int} (hm:m = 255 ∨ m = 65535) (kn:Bool) {p:Px} (hp:Px.ok m p):stepF kn 4 1 m p acz pxz = ⟨p.x,p.y,p.z,p.a,p.a,p.f⟩ :=
 (stepF_good hm ⟨by decide,by decide,by decide,by decide,fun _ => rfl⟩ hp (baseF_ok (by omega)).ac (.inl rfl)).2.2.1 rfl rfl rfl rfl
end Go.Proofs.YtepfoelgegljbaaGreatDoor
