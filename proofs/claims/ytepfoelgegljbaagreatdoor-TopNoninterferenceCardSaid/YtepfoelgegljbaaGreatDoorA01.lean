/- Part A1. -/
import Derived.Test.YtepfoelgegljbaaGreatDoorRows
import Derived.WalkKit
import Derived.ProofKit
import Derived.OpenShut
import Derived.Carry
import Derived.Deep.Strs
import Derived.Lib.SmallJoins
import Derived.LaidMore
import Derived.LaidLaws
import Derived.Stop.Joined
import Derived.Shelf.Small.Bits
import Derived.Shelf.Strconv.Itoa0
import Derived.Shelf.Bits.Mul64
import Derived.Test.YtepfoelgegljbaaGreatDoorProg
namespace Go.Proofs.YtepfoelgegljbaaGreatDoor
open Go.ChangeShapes Go.WideShapes Go.ChangeAt Go.RowKit Go.Deep
section
variable {H:Type} {enc:TypeId × Value → H} {P:Program}
theorem post_below {f:Func} {s:ChangeSpec} {apart fresh handsOn again:Bool} {W W':World} {args:Array Value} {v:Value} {ds gs:List (DataW H)} {before pa pv:List MemPlace}
  (hW:DataW.Whole enc P f.params.toList s.vars apart W args.toList ds gs before)
  (hres:∀ (b:Nat) (sp:Nat → Bool) (hd:Bool),DataW.TrodAll enc P W' b sp hd f.resultTypes.toList (v.resultList f.resultTypes.size) (s.fn H (ds ++ gs)).results [])
  (hargs:∀ sp:Nat → Bool,(∀ p ∈ before,sp p.block = true) → DataW.TrodAll enc P W' 0 sp true f.params.toList args.toList (s.fn H (ds ++ gs)).args pa)
  (hvars:∀ sp:Nat → Bool,(∀ p ∈ before,sp p.block = true) → DataW.TrodVars enc P W' sp s.vars (s.fn H (ds ++ gs)).vars pv)
  (hps:before = pa ++ pv) (hb:Below W.heap.size W W')
  (hok:∀ (j:Nat) (t:TypeId) (r:Value),f.resultTypes[j]? = some t → (v.resultList f.resultTypes.size)[j]? = some r → Value.okWide P W' .any 0 t r) :
  s.post enc P f apart fresh handsOn again W args v W':=by
 have hlt:∀ p ∈ before,p.block < W.heap.size:=fun p hp => hW.lt p hp
 have hold:∀ p ∈ before,(fun b => decide (b < W.heap.size)) p.block = true:=fun p hp => by simpa using hlt p hp
 refine ⟨ds,gs,before,[],pa,pv,hW,hres _ _ _,hargs _ hold,hvars _ hold,World.keptBut_mono (fun p hp => ⟨hp,?_⟩) (hb.frame (· ∈ before)),fun _ => ?_⟩
 ·rw [hps,List.mem_append] at hp
  exact Or.inr hp
 ·obtain ⟨_,_,_,_,_,hz,hn⟩:=hW
  refine ⟨hok,_,_,([] ++ pa) ++ pv,⟨[] ++ pa,pv,trodAll_append (hargs _ (fun _ _ => rfl)) (hres _ _ _),hvars _ (fun _ _ => rfl),rfl,?_,?_⟩,?_⟩
  ·intro b off hp
   have hin:MemPlace.cell b off ∈ before:=by rw [hps]; simpa using hp
   rw [hb.frozen (hlt _ hin)]
   exact hz b off hin
  ·intro ha
   have:=hn ha
   rw [hps] at this
   simpa using this
  ·intro p hp _
   rw [hps]
   simpa using hp
theorem trodAll_below (hl:laidOutB P = true) {W W':World} (hb:Below W.heap.size W W') {sp:Nat → Bool} :
  ∀ (ts:List TypeId),ts.all (fun t => P.readableRec t && decide (t < P.types.size)) = true → ∀ (vs:List Value) (ds:List (DataW H)) (ps:List MemPlace),
   DataW.TrodAll enc P W 0 (fun _ => true) true ts vs ds ps → (∀ x ∈ ps,x.block < W.heap.size) → (∀ x ∈ ps,sp x.block = true) → DataW.TrodAll enc P W' 0 sp true ts vs ds ps
 | [],_,[],[],_,h,_,_ => h
 | [],_,_ :: _,_,_,h,_,_ => by simp [DataW.TrodAll] at h
 | [],_,[],_ :: _,_,h,_,_ => by simp [DataW.TrodAll] at h
 | t :: ts,ht,vs,ds,ps,h,hlt,hsp => by
  obtain ⟨v,vs',d,ds',p,q,rfl,rfl,rfl,h0,h1⟩:=trodAll_cons h
  simp only [List.all_cons,Bool.and_eq_true,decide_eq_true_eq] at ht
  refine ⟨p,q,?_,?_,rfl⟩
  ·exact WideElems.Trod_stays hl ht.1.1 ht.1.2 h0 (fun x hx => hb.same (hlt x (List.mem_append_left _ hx))) (fun x hx => hsp x (List.mem_append_left _ hx))
  ·exact trodAll_below hl hb ts ht.2 vs' ds' q h1 (fun x hx => hlt x (List.mem_append_right _ hx)) (fun x hx => hsp x (List.mem_append_right _ hx))
end
set_option maxRecDepth 100000
open Go.ChangeShapes Go.WideShapes Go.ChangeAt Go.RowKit Go.Deep Go.Joins
def ruleCells:List Value:=[.string ⟨#[]⟩,.int .i64 0,.int .i64 0,.int .i64 0,.string ⟨#[99,108,101,97,114]⟩,.int .i64 0,.int .i64 0,.int .i64 0,.string ⟨#[115,114,99]⟩,.int .i64 1,.int .i64 0,.int .i64 1,.string ⟨#[100,115,116]⟩,.int .i64 0,.int .i64 1,.int .i64 2,.string ⟨#[115,114,99,45,111,118,101,114]⟩,.int .i64 1,.int .i64 3,.int .i64 3,.string ⟨#[100,115,116,45,111,118,101,114]⟩,.int .i64 3,.int .i64 1,.int .i64 3,.string ⟨#[115,114,99,45,105,110]⟩,.int .i64 2,.int .i64 0,.int .i64 4,.string ⟨#[100,115,116,45,105,110]⟩,.int .i64 0,.int .i64 2,.int .i64 4,.string ⟨#[115,114,99,45,111,117,116]⟩,.int .i64 3,.int .i64 0,.int .i64 1,.string ⟨#[100,115,116,45,111,117,116]⟩,.int .i64 0,.int .i64 3,.int .i64 2,.string ⟨#[115,114,99,45,97,116,111,112]⟩,.int .i64 2,.int .i64 3,.int .i64 2,.string ⟨#[100,115,116,45,97,116,111,112]⟩,.int .i64 3,.int .i64 2,.int .i64 1,.string ⟨#[120,111,114]⟩,.int .i64 3,.int .i64 3,.int .i64 3]
def Ruled (w:World):Prop:=∃ T fr,w.heap[1]? = some (.cells ruleCells.toArray T fr)
theorem gRules:Tryz.prog.globalNamed "compositor/operator.rules" = some 1:=by kernel_rfl
theorem tRules:(Tryz.prog.globals[1]?).map (·.type) = some 160:=by kernel_rfl
section
variable {H:Type} {enc:TypeId × Value → H}
theorem rule_cells {w:World} {base:Nat} {sp:Nat → Bool} {held:Bool} {fuel:Nat} {cs:List Value} {y:DataW H × List MemPlace} {b:List UInt8} {x1 x2 x3:Int}
  (h:DataW.trod enc Tryz.prog w base sp held fuel 139 cs = some y) (hy:y.1 = .agg [.lit (.string b),.lit (.int .i64 x1),.lit (.int .i64 x2),.lit (.int .i64 x3)]) :
  cs = [.string ⟨b.toArray⟩,.int .i64 x1,.int .i64 x2,.int .i64 x3]:=by
 obtain ⟨y0,y1,y2,y3,n,rfl,hl,h0,h1,h2,h3⟩:=trod_struct4 Tryz.underlying139 h
 have c9:Tryz.prog.cellsOf 9 = 1:=by kernel_rfl
 have c3:Tryz.prog.cellsOf 3 = 1:=by kernel_rfl
 have cR:Tryz.prog.cellsOf 139 = 4:=by kernel_rfl
 rw [cR] at hl
 match cs,hl with
 | [a0,a1,a2,a3],_ =>
  simp only [c9,c3] at h0 h1 h2 h3
  obtain ⟨s,e0,rfl,_⟩:=DataW.trod_string Tryz.underlying9 h0
  obtain ⟨z1,e1,rfl,_⟩:=DataW.trod_int Tryz.underlying3 h1
  obtain ⟨z2,e2,rfl,_⟩:=DataW.trod_int Tryz.underlying3 h2
  obtain ⟨z3,e3,rfl,_⟩:=DataW.trod_int Tryz.underlying3 h3
  simp at hy e0 e1 e2 e3
  obtain ⟨hb,rfl,rfl,rfl⟩:=hy
  subst e0 e1 e2 e3
  have:s = ⟨b.toArray⟩:=by
   obtain ⟨⟨l⟩⟩:=s
   simp at hb
   subst hb; rfl
  rw [this]
theorem list13 {α:Type} {zs:List α} (h:zs.length = 13):∃ a0 a1 a2 a3 a4 a5 a6 a7 a8 a9 a10 a11 a12,zs = [a0,a1,a2,a3,a4,a5,a6,a7,a8,a9,a10,a11,a12]:=by
 match zs,h with | [a0,a1,a2,a3,a4,a5,a6,a7,a8,a9,a10,a11,a12],_ => exact ⟨a0,a1,a2,a3,a4,a5,a6,a7,a8,a9,a10,a11,a12,rfl⟩
theorem table_cells {w:World} {base:Nat} {sp:Nat → Bool} {held:Bool} {fuel:Nat} {cs:List Value} {p:List MemPlace}
  (h:DataW.trod enc Tryz.prog w base sp held fuel 160 cs = some (Rows.laid_compositor_operator_rules,p)):cs = ruleCells:=by
 obtain ⟨xs,m,_,hx,hlen,hn,hel⟩:=DataW.trod_array Tryz.underlying160 h
 have cR:Tryz.prog.cellsOf 139 = 4:=by kernel_rfl
 have cA:Tryz.prog.cellsOf 160 = 52:=by kernel_rfl
 simp only [Prod.mk.injEq,Rows.laid_compositor_operator_rules,DataW.agg.injEq] at hx
 obtain ⟨a0,a1,a2,a3,a4,a5,a6,a7,a8,a9,a10,a11,a12,rfl⟩:=list13 hn
 simp only [List.map_cons,List.map_nil,List.cons.injEq] at hx
 obtain ⟨⟨x0,x1,x2,x3,x4,x5,x6,x7,x8,x9,x10,x11,x12,_⟩,_⟩:=hx
 rw [cR] at hel
 have k0:=rule_cells (hel 0 (by decide)) x0.symm
 have k1:=rule_cells (hel 1 (by decide)) x1.symm
 have k2:=rule_cells (hel 2 (by decide)) x2.symm
 have k3:=rule_cells (hel 3 (by decide)) x3.symm
 have k4:=rule_cells (hel 4 (by decide)) x4.symm
 have k5:=rule_cells (hel 5 (by decide)) x5.symm
 have k6:=rule_cells (hel 6 (by decide)) x6.symm
 have k7:=rule_cells (hel 7 (by decide)) x7.symm
 have k8:=rule_cells (hel 8 (by decide)) x8.symm
 have k9:=rule_cells (hel 9 (by decide)) x9.symm
 have k10:=rule_cells (hel 10 (by decide)) x10.symm
 have k11:=rule_cells (hel 11 (by decide)) x11.symm
 have k12:=rule_cells (hel 12 (by decide)) x12.symm
 have hl:cs.length = 52:=by omega
 have step:∀ (k:Nat) (l:List Value),(cs.drop (k * 4)).take 4 = l → cs.drop (k * 4) = l ++ cs.drop ((k + 1) * 4):=by
  intro k l h
  have h2:=List.take_append_drop 4 (cs.drop (k * 4))
  rw [h,List.drop_drop] at h2
  rw [← h2,show k * 4 + 4 = (k + 1) * 4 by omega]
 have e:cs = cs.drop (0 * 4):=rfl
 rw [e,step 0 _ k0,step 1 _ k1,step 2 _ k2,step 3 _ k3,step 4 _ k4,step 5 _ k5,step 6 _ k6,step 7 _ k7,step 8 _ k8,step 9 _ k9,step 10 _ k10,step 11 _ k11,step 12 _ k12,List.drop_of_length_le (by omega)]
 rfl
end
end Go.Proofs.YtepfoelgegljbaaGreatDoor
namespace Go.Proofs
open Go.Shelf
def Tryz.lays134_ren:Go.Shelf.Ren:=⟨fun | 134 => 147 | 129 => 149 | n => n,fun | 53 => 167 | 3 => 3 | 4 => 4 | 46 => 192 | 5 => 5 | 9 => 9 | n => n,fun | n => n⟩
theorem Tryz.lays134:Go.Proofs.Lays.n134 Tryz.prog Tryz.lays134_ren:={
 mixed:=by kernel_rfl
 f129:=Tryz.func149.trans (congrArg some (by kernel_rfl))
 f134:=Tryz.func147.trans (congrArg some (by kernel_rfl))
 t3:=Tryz.underlying3
 a3:=Tryz.isAgg3
 z3:=Tryz.sizeOf3
 v3:=Tryz.zeroValue3
 t4:=Tryz.underlying4
 a4:=Tryz.isAgg4
 z4:=Tryz.sizeOf4
 v4:=Tryz.zeroValue4
 t5:=Tryz.underlying5
 a5:=Tryz.isAgg5
 z5:=Tryz.sizeOf5
 v5:=Tryz.zeroValue5
 t9:=Tryz.underlying9
 a9:=Tryz.isAgg9
 z9:=Tryz.sizeOf9
 v9:=Tryz.zeroValue9
 t46:=Tryz.underlying192
 a46:=Tryz.isAgg192
 z46:=Tryz.sizeOf192
 v46:=Tryz.zeroValue192
 t53:=Tryz.underlying167
 a53:=Tryz.isAgg167
 z53:=Tryz.sizeOf167
 v53:=Tryz.zeroValue167 }
theorem Tryz.bits_LeadingZeros64 (x:Int) (w:World) (h0:0 ≤ x) (h1:x ≤ 18446744073709551615) :
  Calls Tryz.prog 147 #[.int .u64 x] w fun e w' => e = .returned (.int .i64 (64 - (Lib.bitLen x.toNat:Int))) ∧ w' = w:=Any.bits_LeadingZeros64 Tryz.lays134 x w h0 h1
def Tryz.lays129_ren:Go.Shelf.Ren:=⟨fun | 129 => 149 | n => n,fun | 53 => 167 | 3 => 3 | 4 => 4 | 46 => 192 | 5 => 5 | 9 => 9 | n => n,fun | n => n⟩
theorem Tryz.lays129:Go.Proofs.Lays.n129 Tryz.prog Tryz.lays129_ren:={
 mixed:=by kernel_rfl
 f129:=Tryz.func149.trans (congrArg some (by kernel_rfl))
 t3:=Tryz.underlying3
 a3:=Tryz.isAgg3
 z3:=Tryz.sizeOf3
 v3:=Tryz.zeroValue3
 t4:=Tryz.underlying4
 a4:=Tryz.isAgg4
 z4:=Tryz.sizeOf4
 v4:=Tryz.zeroValue4
 t5:=Tryz.underlying5
 a5:=Tryz.isAgg5
 z5:=Tryz.sizeOf5
 v5:=Tryz.zeroValue5
 t9:=Tryz.underlying9
 a9:=Tryz.isAgg9
 z9:=Tryz.sizeOf9
 v9:=Tryz.zeroValue9
 t46:=Tryz.underlying192
 a46:=Tryz.isAgg192
 z46:=Tryz.sizeOf192
 v46:=Tryz.zeroValue192
 t53:=Tryz.underlying167
 a53:=Tryz.isAgg167
 z53:=Tryz.sizeOf167
 v53:=Tryz.zeroValue167 }
theorem Tryz.bits_Len64 (x:Int) (w:World) (h0:0 ≤ x) (h1:x ≤ 18446744073709551615) :
  Calls Tryz.prog 149 #[.int .u64 x] w fun e w' => e = .returned (.int .i64 (Lib.bitLen x.toNat)) ∧ w' = w:=Any.bits_Len64 Tryz.lays129 x w h0 h1
def Tryz.lays264_ren:Go.Shelf.Ren:=⟨fun | 264 => 128 | n => n,fun | 53 => 167 | 46 => 192 | n => n,fun | n => n⟩
theorem Tryz.lays264:Go.Proofs.Lays.n264 Tryz.prog Tryz.lays264_ren:={
 mixed:=by kernel_rfl
 f264:=Tryz.func128.trans (congrArg some (by kernel_rfl))
 t46:=Tryz.underlying192
 a46:=Tryz.isAgg192
 z46:=Tryz.sizeOf192
 v46:=Tryz.zeroValue192
 t53:=Tryz.underlying167
 a53:=Tryz.isAgg167
 z53:=Tryz.sizeOf167
 v53:=Tryz.zeroValue167 }
open Go.RowKit Go.Lib in
theorem Tryz.bits_Mul64 (x y:Nat) (hx:x < 18446744073709551616) (hy:y < 18446744073709551616) (w:World) :
  Calls Tryz.prog 128 #[.int .u64 x,.int .u64 y] w fun e w' => e = .returned (.tuple #[.int .u64 ((x * y / 18446744073709551616:Nat):Int),.int .u64 ((x * y % 18446744073709551616:Nat):Int)]) ∧ w' = w:=Any.bits_Mul64 Tryz.lays264 x y hx hy w
end Go.Proofs
