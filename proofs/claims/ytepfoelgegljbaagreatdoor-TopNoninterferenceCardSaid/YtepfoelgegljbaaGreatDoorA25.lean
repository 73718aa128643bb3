/- Part A25. -/
import Derived.Test.YtepfoelgegljbaaGreatDoorA22
import Derived.Test.YtepfoelgegljbaaGreatDoorA23
namespace Go.Proofs.YtepfoelgegljbaaGreatDoor
set_option maxRecDepth 100000
open Go.RowKit
set_option linter.unusedVariables false
def Fo.kd:Fo → Prop
 | .nil => True
 | .draw o r => o.k = 1 ∧ r.kd
 | .grp o k r => o.k = 2 ∧ k.kd ∧ r.kd
theorem Fo.ok.kd {n mx:Int} {b:Bool} {F:Fo} (h:F.ok n mx b):F.kd:=by
 induction F generalizing b with
 | nil => trivial
 | draw o r ih => exact ⟨h.1,ih h.2.2⟩
 | grp o k r ihk ihr => exact ⟨h.1,ihk h.2.2.1,ihr h.2.2.2⟩
theorem conc_empty {F:Fo} {Fs:List Fo} (h:conc (F :: Fs) = []):F = .nil ∧ Fs = []:=by
 cases F with
 | nil =>
  cases Fs with
  | nil => exact ⟨rfl,rfl⟩
  | cons G Fs => cases h
 | draw o r => rw [conc_draw] at h; cases h
 | grp o k r => rw [conc_grp] at h; cases h
theorem conc_step {Fs:List Fo} {o:Opr} {t:List Opr} (h:conc Fs = o :: t):(∃ r Fs',Fs = .draw o r :: Fs' ∧ t = conc (r :: Fs')) ∨ (∃ k r Fs',Fs = .grp o k r :: Fs' ∧ t = conc (k :: r :: Fs')) ∨ (∃ G Fs',o = popO ∧ Fs = .nil :: G :: Fs' ∧ t = conc (G :: Fs')):=by
 cases Fs with
 | nil => cases h
 | cons F Fs =>
  cases F with
  | nil =>
   cases Fs with
   | nil => cases h
   | cons G Fs => cases h; exact .inr (.inr ⟨G,Fs,rfl,rfl,rfl⟩)
  | draw o' r => rw [conc_draw] at h; cases h; exact .inl ⟨r,Fs,rfl,rfl⟩
  | grp o' k r => rw [conc_grp] at h; cases h; exact .inr (.inl ⟨k,r,Fs,rfl,rfl⟩)
theorem ints_set (l:List Int) (i:Nat) (v:Int):(ints64 l).toArray.setIfInBounds i (.int .i64 v) = (ints64 (l.set i v)).toArray:=by
 unfold ints64
 rw [lA_,List.map_set]
theorem ints_at {l:List Int} {i:Nat} {v:Int} (h:l[i]? = some v):(ints64 l).toArray[i]? = some (.int .i64 v):=by
 unfold ints64
 rw [List.getElem?_toArray,List.getElem?_map,h]; rfl
def natI (l:List Nat):List Int:=l.map (fun p:Nat => (p:Int))
theorem own_set {w:World} {base g i n k:Nat} {e:TypeId} {v u:Value} {xs:List Value} (h:w.ownsRow base e k v n xs) (hg:g < base):(w.setCell ⟨g,i,none⟩ u).ownsRow base e k v n xs:=ownsRow_setCell_below h (a:=⟨g,i,none⟩) hg u
theorem info_int:(Tryz.prog.info? 3).map (fun i => (i.zero,i.size,i.bytes)) = some (some (.int .i64 0),1,8):=by kernel_rfl
theorem own_ints {w:World} {base g n:Nat} {l:List Int} {t:TypeId} (e:w.heap[g]? = some (.cells (ints64 l).toArray t)) (hl:l.length = n) (hb:base ≤ g) (hn:n ≤ maxLen):w.ownsRow base t 1 (.slice (some ⟨g,0,none⟩) n n) n (ints64 l) :=
 ⟨by unfold ints64; rw [List.length_map,hl,Nat.mul_one],.inr ⟨g,n,_,rfl,hb,e,Nat.le_refl _,hn,by unfold ints64; simp [hl],by unfold ints64; rw [Nat.mul_one]; exact List.take_of_length_le (by simp [hl])⟩⟩
set_option maxHeartbeats 8000000 in
theorem ends_call (F:Fo) (hk:F.kd) (n:Nat) (hn:n ≤ 100) (hF:F.flat.length = n) (A:Option Addr) (c:Nat) (w:World) (h:Sl w 12 n A (oprs F.flat)) :
  Calls Tryz.prog 58 #[.slice A n c] w fun e w' => ∃ v,e = .returned (.tuple #[v,.int .i64 0]) ∧ w'.ownsRow w.heap.size 3 1 v n (ints64 (endsF F 0 (List.replicate n 0))) ∧ Bel w w':=by
 obtain ⟨i0,hi,hz0,hz1,hz2⟩:=info_parts info_int
 have hmk1:=fun w => run_make_row' (P:=Tryz.prog) 22 3 (.int .i64 0) 8 Tryz.underlying22 (by kernel_rfl) rfl .i64 .i64 n (by omega) (by omega) w
 obtain ⟨TE,hTE⟩:∃ TE,TE = endsF F 0 (List.replicate n 0):=⟨_,rfl⟩
 rw [← hTE]
 have HTE:=hd_ hTE
 obtain ⟨L,hL⟩:∃ L,L = F.flat:=⟨_,rfl⟩
 rw [← hL] at h hF
 have HL:=hd_ hL
 have HS:=hd_ h
 have HF:=hd_ hF
 have HKD:=hd_ hk
 clear hTE hL h hF hk
 go_enter Tryz.func58,Tryz.ntmps58
 go_wp2_with fail
 go_loopg [5,13] n (fun gk s5 s13 wr => ∃ (i:Nat) (Fs:List Fo) (ps:List Nat) (out:List Int),i + gk = n ∧ s13 = .int .i64 i ∧ L.drop i = conc Fs ∧ Fs.length = ps.length + 1 ∧ (∀ G ∈ Fs,G.kd) ∧ (∀ p ∈ ps,p < i) ∧ ps.length ≤ i ∧ out.length = n ∧ wr.ownsRow (w.heap.size + 1) 3 1 s5 ps.length (ints64 (natI ps.reverse)) ∧ Bel w wr ∧ wr.heap[w.heap.size]? = some (.cells (ints64 out).toArray 3) ∧ endsZ Fs ps i out = TE)
 case atStart =>
  refine ⟨0,[F],[],List.replicate n 0,by omega,rfl,by rw [HL.out]; rfl,rfl,by simp [HKD.out],by simp,by simp,by simp,World.ownsRow_nil _ _ _ _,(Bel.refl w).al _,?_,HTE.out.symm⟩
  refine (at_new rfl).trans ?_
  rw [made_one]
  simp [ints64]
 case round =>
  obtain ⟨i,Fs,ps,out,hgk,rfl,hD,hlen,hkd,hps,hpi,hlo,hown,hX,eO,hE⟩:=hrel
  clear hmk1
  have HE:=hd_ hE
  have HOWN:=hd_ hown
  have HKS:=hd_ hkd
  have HPS:=hd_ hps
  have HLO:=hd_ hlo
  have HLEN:=hd_ hlen
  clear hE hkd hps hlo hlen
  by_cases hlt:i < n
  case neg =>
   obtain rfl:i = n:=by omega
   rw [List.drop_of_length_le (by rw [HF.out]; omega)] at hD
   have hq:ps = [] ∧ out = TE:=by
    cases Fs with
    | nil => exact absurd HLEN.out (by simp)
    | cons G Gs =>
     obtain ⟨rfl,rfl⟩:=conc_empty hD.symm
     have h2:=HLEN.out
     have:ps = []:=by cases ps with | nil => rfl | cons p ps => simp at h2
     subst this
     exact ⟨rfl,HE.out⟩
   obtain ⟨rfl,rfl⟩:=hq
   obtain ⟨A0,c0,rfl,-⟩:=own_sl hown
   have HEO:=hd_ (own_ints (base:=w.heap.size) eO HLO.out (Nat.le_refl _) (by unfold maxLen; omega))
   have HX:=hd_ hX
   clear hD hown eO hX
   go_wp2_with fail
   go_ret2
   exact ⟨_,rfl,HEO.out,HX.out⟩
  case pos =>
   obtain ⟨o,ho⟩:∃ o,L[i]? = some o:=⟨L[i]'(by have:=HF.out; omega),List.getElem?_eq_getElem _⟩
   obtain ⟨g,off,rfl,lg,hLD⟩:=(HS.out.bel hX).opld ho hlt
   have hld:=hLD _ (Bel.refl _)
   rw [drop_at ho] at hD
   have HD:=hd_ hD
   have HOO:=hd_ ho
   have hg:g < w.heap.size:=by
    obtain ⟨g',off',ee,lg',-⟩:=HS.out.opld ho hlt
    cases ee
    exact lg'
   clear hLD hD ho hown
   go_upto_region 6 with (first | ((with_reducible show wpList _ _ _ (⟨some 17,_,_,_,_,_⟩ :: _) _ _); refine wpList_ld rfl rfl rfl (hld) ?_) | fail)
   refine at_world (fun Y => Bel wr Y ∧ Y.heap[w.heap.size]? = some (.cells (ints64 out).toArray 3) ∧ Y.heap[wr.heap.size]? = some (oOp o)) ⟨(Bel.refl wr).al _,at_old eO,at_new (by first | rfl | simp)⟩ ?_
   clear hld
   rintro Y ⟨hY,eA,eO⟩
   have Os:=lt_of_heap eO
   have O_0:=cq0 eO rfl
   have fO:=frozA eO
   have lA:=lt_of_heap eA
   have kA:=cell_of eA (ints_at (List.getElem?_eq_getElem (show i < out.length by have:=HLO.out; omega)))
   have fA:∀ j,Y.frozen? ⟨w.heap.size,j,none⟩ = false:=fun j => frozA eA j
   have HX0:=hd_ hX
   have hne:(w.heap.size = wr.heap.size) = False:=eq_false (by have:=lt_of_heap (show wr.heap[w.heap.size]? = _ from (by assumption)); omega)
   clear hX
   have hps2:=HPS.out
   have hkd2:=HKS.out
   have hE2:=HE.out
   have hlen2:=HLEN.out
   rcases conc_step HD.out.symm with ⟨r,Fs',rfl,hDt⟩ | ⟨k,r,Fs',rfl,hDt⟩ | ⟨G,Fs',rfl,rfl,hDt⟩
   ·have hk1:o.k = 1:=(hkd2 _ (List.mem_cons_self ..)).1
    have hkr:∀ H ∈ r :: Fs',H.kd:=fun H hH => by
     rcases List.mem_cons.1 hH with rfl | hH
     ·exact (hkd2 _ (List.mem_cons_self ..)).2
     ·exact hkd2 H (List.mem_cons_of_mem _ hH)
    rw [endsZ_draw] at hE2
    have k1:(o.k == 1) = true:=beq_iff_eq.2 hk1
    have W:=hd_ (And.intro hDt (And.intro hkr (And.intro hE2 (And.intro hps2 hlen2))))
    clear hDt hkr hE2 hk1 hps2 hkd2 hlen2
    go_wp2_with fail
    go_roundg (gk - 1)
    case measure => omega
    case rel =>
     obtain ⟨hDt,hkr,hE2,hps2,hlen2⟩:=W.out
     have h:=heap_set (i:=i) (.int .i64 (i:Int)) eA
     rw [ints_set] at h
     exact ⟨i + 1,r :: Fs',ps,out.set i i,by omega,by go_num,hDt,hlen2,hkr,fun p hp => Nat.lt_succ_of_lt (hps2 p hp),by omega,by rw [List.length_set,HLO.out],own_set (own_ext HOWN.out hY) (Nat.lt_succ_self _),(HX0.out.trans hY).setCell (Nat.le_refl _) _,h,hE2⟩
   ·have hk1:o.k = 2:=(hkd2 _ (List.mem_cons_self ..)).1
    have hkr:∀ H ∈ k :: r :: Fs',H.kd:=fun H hH => by
     have hh:=hkd2 _ (List.mem_cons_self ..)
     rcases List.mem_cons.1 hH with rfl | hH
     ·exact hh.2.1
     rcases List.mem_cons.1 hH with rfl | hH
     ·exact hh.2.2
     ·exact hkd2 H (List.mem_cons_of_mem _ hH)
    rw [endsZ_grp] at hE2
    have k1:(o.k == 1) = false:=by rw [hk1]; rfl
    have k2:(o.k == 2) = true:=beq_iff_eq.2 hk1
    have W:=hd_ (And.intro hDt (And.intro hkr (And.intro hE2 (And.intro hps2 hlen2))))
    clear hDt hkr hE2 hk1 hps2 hkd2 hlen2
    have hst:=heap_set (i:=i) (.int .i64 (i:Int)) eA
    rw [ints_set] at hst
    go_upto_region 11 with fail
    refine at_world (fun Y2 => Bel w Y2 ∧ Y2.ownsRow (w.heap.size + 1) 3 1 u5 ps.length (ints64 (natI ps.reverse)) ∧ Y2.heap[w.heap.size]? = some (.cells (ints64 (out.set i i)).toArray 3)) ⟨(HX0.out.trans hY).setCell (Nat.le_refl _) _,own_set (own_ext HOWN.out hY) (Nat.lt_succ_self _),hst⟩ ?_
    clear hst Os O_0 fO kA fA lA eA eO
    rintro Y2 ⟨hB2,hown2,eA2⟩
    have HB2:=hd_ hB2
    have HOW2:=hd_ hown2
    have EA2:=hd_ eA2
    clear hB2 hown2 eA2
    go_wp2_with (at_builtin; refine wpList_append_own _ rfl _ _ 22 rfl (w.heap.size + 1) 3 i0 (.int .i64 0) 1 8 Tryz.underlying22 hi hz0 hz1 hz2 rfl (by decide) _ _ _ rfl (own_ext HOW2.out ((Bel.refl _).al _)) ⟨Y2.heap.size,0,none⟩ 1 1 [.int .i64 (i:Int)] rfl rfl ?ca ?cb ?cc ?cd ?ce ?_)
    case ca => exact new_row Y2 [.int .i64 (i:Int)] _
    case cb => intro u hu; simp at hu; subst hu; rfl
    case cc => unfold maxLen; omega
    case cd => omega
    case ce => have:=lt_of_heap EA2.out; simp; omega
    intro v' w3 hown' hgrow _
    have HN2:=hd_ hown'
    have HG:=hd_ (show Bel w w3 from HB2.out.app (Nat.le_succ _) HOW2.out hgrow)
    have HS3:=hd_ (show w3.heap[w.heap.size]? = some (.cells (ints64 (out.set i i)).toArray 3) from (hgrow.block _ (by have:=lt_of_heap EA2.out; simp; omega) (fun e => by have:=(HOW2.out.lt _ e.symm).1; omega)).trans (at_old EA2.out))
    clear hown' hgrow
    go_wp2_with fail
    go_roundg (gk - 1)
    case measure => omega
    case rel =>
     obtain ⟨hDt,hkr,hE2,hps2,hlen2⟩:=W.out
     refine ⟨i + 1,k :: r :: Fs',i :: ps,out.set i i,by omega,by go_num,hDt,by simpa using hlen2,hkr,fun p hp => ?_,by simp; omega,by rw [List.length_set,HLO.out],?_,HG.out,HS3.out,hE2⟩
     ·rcases List.mem_cons.1 hp with rfl | hp
      ·omega
      ·exact Nat.lt_succ_of_lt (hps2 p hp)
     ·have e:ints64 (natI (i :: ps).reverse) = ints64 (natI ps.reverse) ++ [.int .i64 (i:Int)]:=by simp [ints64,natI]
      rw [e,List.length_cons]
      exact HN2.out
   ·obtain ⟨p,ps',rfl⟩:∃ p ps',ps = p :: ps':=by
     cases ps with
     | nil => simp at hlen2
     | cons p ps' => exact ⟨p,ps',rfl⟩
    have hpl:p < i:=hps2 p (List.mem_cons_self ..)
    have hkr:∀ H ∈ G :: Fs',H.kd:=fun H hH => hkd2 H (List.mem_cons_of_mem _ hH)
    rw [endsZ_pop] at hE2
    have hm1:ps'.length ≤ 100:=by simp at hpi; omega
    obtain ⟨m,hm⟩:∃ m,m = ps'.length:=⟨_,rfl⟩
    have hownY:=own_ext HOWN.out hY
    rw [List.length_cons,← hm] at hownY
    obtain ⟨A0,c0,rfl,hsl⟩:=own_sl hownY
    have hcap:=own_cap hownY
    have hcut:=own_cut (m:=m) hownY (by omega) (by omega)
    have e:(natI (p :: ps').reverse)[m]? = some (p:Int):=by simp [natI,hm]
    have hct:(ints64 (natI (p :: ps').reverse)).take (m * 1) = ints64 (natI ps'.reverse):=by
     rw [Nat.mul_one]
     have:ints64 (natI (p :: ps').reverse) = ints64 (natI ps'.reverse) ++ [.int .i64 (p:Int)]:=by simp [ints64,natI]
     rw [this,List.take_append_of_le_length (by simp [ints64,natI,hm]),List.take_of_length_le (by simp [ints64,natI,hm])]
    rw [hct] at hcut
    obtain ⟨gq,oq,rfl,dq⟩:=hsl.int e (by omega)
    have hgq:w.heap.size < gq:=by
     have:=(hownY.lt gq rfl).1
     omega
    have hgn:(w.heap.size = gq) = False:=eq_false (by omega)
    have hgn2:(gq = w.heap.size) = False:=eq_false (by omega)
    have kP:=cell_of eA (ints_at (List.getElem?_eq_getElem (show p < out.length by have:=HLO.out; omega)))
    have W:=hd_ (And.intro hDt (And.intro hkr (And.intro hE2 (And.intro hps2 hlen2))))
    have HCUT:=hd_ hcut
    have HM:=hd_ hm
    have HPI:=hd_ hpi
    have hm2:m ≤ 100:=by omega
    clear hDt hkr hE2 hps2 hkd2 hlen2 hownY hsl e hct hcut hm hm1 hpi
    go_wp2_with fail
    go_roundg (gk - 1)
    case measure => omega
    case rel =>
     obtain ⟨hDt,hkr,hE2,hps2,hlen2⟩:=W.out
     have h:=heap_set (i:=p) (.int .i64 (i:Int)) (heap_set (i:=i) (.int .i64 (i:Int)) eA)
     rw [ints_set,ints_set] at h
     refine ⟨i + 1,G :: Fs',ps',(out.set i i).set p i,by omega,by go_num,hDt,by simpa using hlen2,hkr,fun q hq => Nat.lt_succ_of_lt (hps2 q (List.mem_cons_of_mem _ hq)),by have:=HPI.out; simp at this; omega,by simp only [List.length_set,HLO.out],?_,((HX0.out.trans hY).setCell (Nat.le_refl _) _).setCell (Nat.le_refl _) _,h,hE2⟩
     rw [← HM.out]
     exact own_set (own_set HCUT.out (Nat.lt_succ_self _)) (Nat.lt_succ_self _)
end Go.Proofs.YtepfoelgegljbaaGreatDoor
